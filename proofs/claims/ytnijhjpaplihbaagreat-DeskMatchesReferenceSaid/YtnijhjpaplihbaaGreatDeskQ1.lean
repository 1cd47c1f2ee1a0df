/- Several texts in one (wip/xiS.py): XDeskQ1 XDeskQ2 XDeskQ3 XDeskQ4. -/
import Derived.Test.YtnijhjpaplihbaaGreatDeskI
import Derived.Test.YtnijhjpaplihbaaGreatDeskM1D
set_option linter.unusedVariables false
set_option maxRecDepth 100000
set_option linter.unusedSimpArgs false
namespace Go.Proofs.YtnijhjpaplihbaaGreat.Si
open Go Go.Sy
noncomputable def rval (e : List Int) : Bool := xbP (e.getD 0 0) (e.getD 1 0) (e.getD 2 0) (e.getD 3 0) (e.getD 4 0) (e.getD 5 0) (e.getD 6 0) (e.getD 7 0) (e.getD 8 0) (e.getD 9 0) (e.getD 10 0) (e.getD 11 0) (e.getD 12 0)
theorem xuL (l : List (List Int)) : xdZ l ∧ xdh l = (decide (l.length ≤ 60) && l.all rval) := by
 unfold xdZ xdh
 by_cases hl : l.length ≤ 60
 ·have hl' : decide ((l.length : Int) > 60) = false := by simp; omega
  have key := xa6 (step := xdg l) l.length (fun i => !rval (l.getD i [])) (fun i => [.b false, .i i]) (fun _ => []) 0 2 [.b false, .i l.length]
   (fun i hi => by
    unfold xdg
    simp only [gi_1, gi_z, gb_z, dlt hi, xaa (xa1 hi), Int.toNat_natCast, xaA (show i < 4611686018427387904 by omega)]
    try rfl)
   (by
    unfold xdg
    simp only [gi_1, gi_z, gb_z, dnlt]
    try rfl)
  rw [hl']
  refine ⟨fun _ => key.1, ?_⟩
  have gd : ∀ j (h : j < l.length), l[j] = l.getD j [] := fun j h => by rw [List.getD_eq_getElem?_getD, List.getElem?_eq_getElem h]; rfl
  rcases key.2 with ⟨i, h1, h2, h3, h4⟩ | ⟨h3, h4⟩
  ·have e : xi6 l = (1, []) := h4
   rw [e]
   have : l.all rval = false := by
    rw [List.all_eq_false]
    refine ⟨_, xaW h1, ?_⟩
    simpa using h2
   rw [this]; simp [Nat.beq]
  ·have e : xi6 l = (3, [.b false, .i l.length]) := h4
   rw [e]
   have : l.all rval = true := by
    rw [List.all_eq_true]
    intro x hx
    obtain ⟨j, hj, rfl⟩ := List.getElem_of_mem hx
    rw [gd j hj]
    simpa using h3 j hj
   rw [this]; simp [Nat.beq, hl]
 ·have hl' : decide ((l.length : Int) > 60) = true := by simp; omega
  rw [hl']
  refine ⟨fun h => (Bool.noConfusion h), ?_⟩
  simp [hl]
theorem xhX {a b c d : Int} (h1 : Pt a b) (h2 : Pt c d) : xca a b c d = cr a b c d := xiE h1 h2
theorem xx0 (x y : Int) : xfI x y = decide (Pt x y) := by
 unfold xfI; rw [Bool.eq_iff_iff]; simp; unfold Pt; omega
theorem xy3 (x y : Int) : xfi x y = decide (Pt x y) := xx0 x y
theorem xCf (a b c d : Int) : xaQ a b c d = decide (Bx a b c d) := by
 unfold xaQ xf4; rw [Bool.eq_iff_iff]; simp; unfold Bx; omega
theorem xvB (s n t b a1 a2 c1 c2 fx fy tx ty F : Int) : xbP s n t b a1 a2 c1 c2 fx fy tx ty F = decide (RV s n t b a1 a2 c1 c2 fx fy tx ty F) := by
 unfold xbP xjx
 rw [xy3, xy3, xCf]
 by_cases h1 : Pt fx fy <;> by_cases h2 : Pt tx ty <;> by_cases h3 : Bx a1 a2 c1 c2
 ·rw [xhX h1 h2, Bool.eq_iff_iff]
  simp [h1, h2, h3, RV]
  omega
 all_goals
  rw [Bool.eq_iff_iff]
  simp [h1, h2, h3, RV]
theorem xAQ {fx fy tx ty xl xh yl yh : Int} (hf : Pt fx fy) (ht : Pt tx ty) (h1 : Pt xl yl) (h2 : Pt xl yh) (h3 : Pt xh yl) (h4 : Pt xh yh) : xgB fx fy tx ty xl xh yl yh = decide (xl ≤ xh ∧ yl ≤ yh ∧ Core fx fy tx ty xl xh yl yh) := by
 unfold xgB
 rw [xhX hf h1, xhX hf h2, xhX hf h3, xhX hf h4, xhX h1 ht, xhX h2 ht, xhX h3 ht, xhX h4 ht, Bool.eq_iff_iff]
 simp only [Bool.cond_false_left, Bool.and_eq_true, Bool.or_eq_true, decide_eq_true_eq, Bool.not_eq_true', Bool.or_eq_false_iff, Bool.and_eq_false_imp, decide_eq_false_iff_not]
 unfold Core
 omega
theorem xAL {s n t b a1 a2 c1 c2 fx fy tx ty F b1 b2 d1 d2 : Int} (h : RV s n t b a1 a2 c1 c2 fx fy tx ty F) (hb : Bx b1 b2 d1 d2) : xiK s n t b a1 a2 c1 c2 fx fy tx ty F b1 b2 d1 d2 = decide (Sees a1 a2 c1 c2 fx fy tx ty F b1 b2 d1 d2) := by
 obtain ⟨_, _, _, _, hF, hA, hf, ht, _⟩ := h
 unfold xiK
 unfold Bx at hA hb
 simp (disch := omega) only [xot, Int.zero_sub, xgs, xhn]
 by_cases m1 : max (b1 - a2) (-F) ≤ min (b2 - a1) F
 ·by_cases m2 : max (d1 - c2) (-F) ≤ min (d2 - c1) F
  ·have p : ∀ x y, (x = max (b1 - a2) (-F) ∨ x = min (b2 - a1) F) → (y = max (d1 - c2) (-F) ∨ y = min (d2 - c1) F) → Pt x y := by
    intro x y h1 h2; unfold Pt; omega
   rw [xAQ hf ht (p _ _ (Or.inl rfl) (Or.inl rfl)) (p _ _ (Or.inl rfl) (Or.inr rfl)) (p _ _ (Or.inr rfl) (Or.inl rfl)) (p _ _ (Or.inr rfl) (Or.inr rfl))]
   rfl
  ·have : ¬ Sees a1 a2 c1 c2 fx fy tx ty F b1 b2 d1 d2 := fun h => m2 h.2.1
   unfold xgB
   have e : decide (max (d1 - c2) (-F) > min (d2 - c1) F) = true := by simp; omega
   simp [this, e]
 ·have : ¬ Sees a1 a2 c1 c2 fx fy tx ty F b1 b2 d1 d2 := fun h => m1 h.1
  unfold xgB
  have e : decide (max (b1 - a2) (-F) > min (b2 - a1) F) = true := by simp; omega
  simp [this, e]
theorem xx5 (s n t b a1 a2 c1 c2 fx fy tx ty F x y : Int) : xf2 s n t b a1 a2 c1 c2 fx fy tx ty F x y = decide (RV s n t b a1 a2 c1 c2 fx fy tx ty F ∧ Pt x y ∧ Sees a1 a2 c1 c2 fx fy tx ty F x x y y) := by
 unfold xf2
 rw [xvB, xx0]
 by_cases h1 : RV s n t b a1 a2 c1 c2 fx fy tx ty F <;> by_cases h2 : Pt x y
 ·rw [xAL h1 ((xD7 x y).1 h2)]; simp [h1, h2]
 all_goals simp [h1, h2]
theorem xwP {a1 a2 u v F : Int} (h1 : -1000000 ≤ a1) (h2 : a2 ≤ 1000000) (h3 : a1 ≤ a2) (hF : 0 ≤ F ∧ F ≤ 1000000) : xgZ a1 a2 u v F = rlo a1 F u v ∧ xgY a1 a2 u v F = rhi a2 F u v := by
 unfold xgZ xgY xnZ xnY xn0 rlo rhi
 simp (disch := omega) only [xot, xgs, xhn]
 have e0 : (decide (u < 0) || decide (v < 0)) = decide (u < 0 ∨ v < 0) := by rw [Bool.eq_iff_iff]; simp
 have e3 : (decide (u > 0) || decide (v > 0)) = decide (u > 0 ∨ v > 0) := by rw [Bool.eq_iff_iff]; simp
 rw [e0, e3]
 by_cases e1 : u < 0 ∨ v < 0 <;> by_cases e2 : u > 0 ∨ v > 0 <;> simp [e1, e2]
theorem xzQ (s n t b a1 a2 c1 c2 fx fy tx ty F : Int) :
  (RV s n t b a1 a2 c1 c2 fx fy tx ty F ∧ xiq s n t b a1 a2 c1 c2 fx fy tx ty F = rlo a1 F fx tx ∧ xip s n t b a1 a2 c1 c2 fx fy tx ty F = rhi a2 F fx tx ∧ xio s n t b a1 a2 c1 c2 fx fy tx ty F = rlo c1 F fy ty ∧ xin s n t b a1 a2 c1 c2 fx fy tx ty F = rhi c2 F fy ty ∧ xjL s n t b a1 a2 c1 c2 fx fy tx ty F = 0) ∨
  (¬ RV s n t b a1 a2 c1 c2 fx fy tx ty F ∧ xiq s n t b a1 a2 c1 c2 fx fy tx ty F = 0 ∧ xip s n t b a1 a2 c1 c2 fx fy tx ty F = 0 ∧ xio s n t b a1 a2 c1 c2 fx fy tx ty F = 0 ∧ xin s n t b a1 a2 c1 c2 fx fy tx ty F = 0 ∧ xjL s n t b a1 a2 c1 c2 fx fy tx ty F = 1) := by
 unfold xiq xip xio xin xjL
 rw [xvB]
 by_cases h : RV s n t b a1 a2 c1 c2 fx fy tx ty F
 ·obtain ⟨_, _, _, _, hF, hA, _⟩ := id h
  unfold Bx at hA
  have e1 := @xwP a1 a2 fx tx F (by omega) (by omega) (by omega) hF
  have e2 := @xwP c1 c2 fy ty F (by omega) (by omega) (by omega) hF
  rw [e1.1, e1.2, e2.1, e2.2]
  simp [h]
 ·simp [h]
theorem xAt (e : List Int) : sval e = rval e := by unfold sval rval; rw [xoT, xvB]
theorem xvi (l : List (List Int)) : xaq l = xdh l := by
 rw [(xhJ l).2, (xuL l).2, show sval = rval from funext xAt]
end Go.Proofs.YtnijhjpaplihbaaGreat.Si
namespace Go.Proofs.YtnijhjpaplihbaaGreat
open Go Go.Sy
theorem xBq {b n : Nat} (hb : b ≤ 100) (hn : n ≤ 1000) : xcI b n := by
 unfold xcI
 have := Nat.mul_le_mul hn hb
 simp only [maxLen]
 omega
theorem xuJ (b : List Int) : xaQ (b.getD 0 0) (b.getD 1 0) (b.getD 2 0) (b.getD 3 0) = decide (VB b) := by
 unfold xaQ xf4
 rw [Bool.eq_iff_iff]
 simp only [Bool.and_eq_true, decide_eq_true_eq]
 unfold VB
 omega
theorem xwQ (x y : Int) : xeB x y = decide (VP x y) := by
 unfold xeB
 rw [Bool.eq_iff_iff]
 simp only [Bool.and_eq_true, decide_eq_true_eq]
 unfold VP
 omega
theorem xsn (l : List (List Int)) : xdi l ∧ xbE l = decide (VL l) := by
 unfold xdi xbE
 by_cases hl : 0 < l.length ∧ l.length ≤ 16
 ·have hl' : (decide ((l.length : Int) < 1) || decide ((l.length : Int) > 16)) = false := by
   rw [Bool.or_eq_false_iff]; exact ⟨decide_eq_false (by omega), decide_eq_false (by omega)⟩
  have key := xa6 (step := xea l) l.length (fun i => !decide (VB (l.getD i []))) (fun i => [.b false, .i i]) (fun i => []) 0 2 [.b false, .i l.length]
   (fun i hi => by
    unfold xea
    simp only [gi_1, gi_z, gb_z, dlt hi, xaa (xa1 hi), Int.toNat_natCast, xaA (show i < 4611686018427387904 by omega), xuJ])
   (by
    unfold xea
    simp only [gi_1, gi_z, gb_z, dnlt])
  rw [hl']
  refine ⟨fun _ => key.1, ?_⟩
  rcases key.2 with ⟨i, h1, h2, h3, h4⟩ | ⟨h3, h4⟩
  ·have e : xkK l = (1, []) := h4
   rw [e, decide_eq_false (show ¬ VL l from fun h => by
    have := h.2.2 _ (xaW h1)
    rw [decide_eq_true this] at h2; cases h2)]
   rfl
  ·have e : xkK l = (3, [.b false, .i l.length]) := h4
   rw [e, decide_eq_true (show VL l from ⟨hl.1, hl.2, fun x hx => by
    obtain ⟨j, hj, rfl⟩ := xe1 hx
    simpa using h3 j hj⟩)]
   rfl
 ·have hl' : (decide ((l.length : Int) < 1) || decide ((l.length : Int) > 16)) = true := by
   rw [Bool.or_eq_true, decide_eq_true_eq, decide_eq_true_eq]; omega
  rw [hl']
  refine ⟨fun h => (by cases h), ?_⟩
  rw [decide_eq_false (show ¬ VL l from fun h => hl ⟨h.1, h.2.1⟩)]
  rfl
theorem xu0 : ∀ (l : List (List Int)) (e : Int) (i : Nat), i < l.length → xnE e (l.take (i + 1)) = (l.getD i []).getD 1 0 := by
 intro l e i hi
 rw [xbr hi, xrs]
 rfl
theorem xrh (l : List (List Int)) : xcH l ∧ xa0 l = decide (VC l) := by
 unfold xcH xa0
 by_cases h60 : l.length ≤ 60
 ·have hl' : decide ((l.length : Int) > 60) = false := decide_eq_false (by omega)
  have key := xdL (step := xcW l) l.length (fun i xs => xs = [.b false, .i i] ∧ CL 0 (l.take i)) (fun r => (r.1 = 4 ∧ VC l) ∨ ((r.1 = 1 ∨ r.1 = 2) ∧ ¬ VC l))
   (fun i xs hi ⟨hx, hcl⟩ => by
    subst hx
    have nvc : ¬ CO (xnE 0 (l.take i)) (l.getD i []) → ¬ VC l := fun hn h => by
     have h := h.1
     rw [← List.take_append_drop i l, xnl] at h
     have h := h.2
     rw [List.drop_eq_getElem_cons hi] at h
     have hg : l[i] = l.getD i [] := by rw [List.getD_eq_getElem?_getD, List.getElem?_eq_getElem hi]; rfl
     rw [hg] at h
     exact hn h.1
    unfold xcW xhT
    simp only [gi_1, gi_z, gb_z, dlt hi, xaa (xa1 hi), Int.toNat_natCast, xaA (show i < 4611686018427387904 by omega)]
    cases hA : (decide ((l.getD i []).getD 0 0 < 0) || decide ((l.getD i []).getD 0 0 ≥ (l.getD i []).getD 1 0) || decide ((l.getD i []).getD 1 0 > 10000000) ||
     !(decide ((l.getD i []).getD 2 0 ≥ -1000) && decide ((l.getD i []).getD 2 0 ≤ (l.getD i []).getD 3 0) && decide ((l.getD i []).getD 3 0 ≤ 1000)) ||
     !(decide ((l.getD i []).getD 4 0 ≥ -1000) && decide ((l.getD i []).getD 4 0 ≤ (l.getD i []).getD 5 0) && decide ((l.getD i []).getD 5 0 ≤ 1000))) with
    | true =>
     refine .inr ⟨0, [], rfl, .inr ⟨.inl rfl, nvc fun hc => ?_⟩⟩
     unfold CO at hc
     have he : 0 ≤ xnE 0 (l.take i) := by
      cases i with
      | zero => simp [xnE]
      | succ i =>
       have hi' : i < l.length := by omega
       rw [xu0 l 0 i hi']
       have := xvg hcl (l.getD i []) (by rw [xbr hi']; simp)
       unfold CO at this
       omega
     simp only [Bool.or_eq_true, decide_eq_true_eq, Bool.not_eq_true', Bool.and_eq_false_iff, decide_eq_false_iff_not] at hA
     omega
    | false =>
     simp only [Bool.or_eq_false_iff, decide_eq_false_iff_not, Bool.not_eq_false', Bool.and_eq_true, decide_eq_true_eq] at hA
     simp only [cond_false]
     cases i with
     | zero =>
      rw [xaa (fun h => by simp at h), xaa (fun h => by simp at h), xaa (fun h => by simp at h)]
      refine .inl ⟨_, rfl, rfl, ?_⟩
      rw [xbr hi, xnl]
      refine ⟨hcl, ?_, trivial⟩
      simp only [List.take_zero, xnE]
      unfold CO
      omega
     | succ i =>
      have hi' : i < l.length := by omega
      have ew : IntKind.i64.wrap (((i + 1 : Nat) : Int) - 1) = (i : Int) := by rw [xav (by omega)]; omega
      simp only [ew, Int.toNat_natCast]
      rw [xaa (fun _ => xa1 hi'), xaa (fun _ => xa1 hi'), xaa (fun _ => xa1 hi')]
      have hd : decide (((i + 1 : Nat) : Int) > 0) = true := decide_eq_true (by omega)
      rw [hd, Bool.true_and]
      have he := xu0 l 0 i hi'
      by_cases hlt : (l.getD (i + 1) []).getD 0 0 < (l.getD i []).getD 1 0
      ·rw [decide_eq_true hlt]
       refine .inr ⟨1, [], rfl, .inr ⟨.inr rfl, nvc fun hc => ?_⟩⟩
       rw [he] at hc
       unfold CO at hc
       omega
      ·rw [decide_eq_false hlt]
       refine .inl ⟨_, rfl, rfl, ?_⟩
       rw [xbr hi, xnl]
       refine ⟨hcl, ?_, trivial⟩
       rw [he]
       unfold CO
       omega)
   (fun xs ⟨hx, hcl⟩ => by
    subst hx
    rw [List.take_length] at hcl
    refine ⟨3, [.b false, .i l.length], ?_, .inl ⟨rfl, hcl, h60⟩⟩
    unfold xcW
    simp only [gi_1, gi_z, gb_z, dnlt]) (xs := xgi l) ⟨rfl, by simp [CL]⟩
  rw [hl']
  refine ⟨fun _ => key.1, ?_⟩
  have k2 : ((xfm l).1 = 4 ∧ VC l) ∨ (((xfm l).1 = 1 ∨ (xfm l).1 = 2) ∧ ¬ VC l) := key.2
  rcases k2 with ⟨e, hv⟩ | ⟨e | e, hv⟩
  ·rw [e, decide_eq_true hv]; rfl
  ·rw [e, decide_eq_false hv]; rfl
  ·rw [e, decide_eq_false hv]; rfl
 ·have hl' : decide ((l.length : Int) > 60) = true := decide_eq_true (by omega)
  rw [hl']
  refine ⟨fun h => (by cases h), ?_⟩
  rw [decide_eq_false (show ¬ VC l from fun h => h60 h.2)]
  rfl
theorem xAI (f u : Int) : xcG f u = decide (VT f u) := by
 unfold xcG
 rw [Bool.eq_iff_iff]
 simp only [Bool.and_eq_true, decide_eq_true_eq]
 unfold VT
 omega
theorem xAK (f u : Int) (l : List (List Int)) (hv : VC l) (ht : VT f u) : xay (xd0 f u l) (xfj f u l) ∧
  xdj f u l = (2, [.i (covL f u l), .i l.length, .i (sumL f u 4 l), .i (sumL f u 5 l), .i (sumL f u 2 l), .i (sumL f u 3 l)]) := by
 have key := xgN (σ := Unit) (step := xd0 f u l) l.length
  (fun i _ => [.i (covL f u (l.take i)), .i i, .i (sumL f u 4 (l.take i)), .i (sumL f u 5 (l.take i)), .i (sumL f u 2 (l.take i)), .i (sumL f u 3 (l.take i))]) (fun _ s => s)
  (fun i _ => (0 ≤ covL f u (l.take i) ∧ covL f u (l.take i) ≤ 10000000 * i) ∧ ∀ k, k = 2 ∨ k = 3 ∨ k = 4 ∨ k = 5 → -10000000000 * i ≤ sumL f u k (l.take i) ∧ sumL f u k (l.take i) ≤ 10000000000 * i) 1
  (fun _ => [.i (covL f u l), .i l.length, .i (sumL f u 4 l), .i (sumL f u 5 l), .i (sumL f u 2 l), .i (sumL f u 3 l)])
  (fun i s hi ⟨h, h2⟩ => by
   have hc := xvg hv.1 _ (xaW hi)
   have hm := xs1 ht hc
   refine ⟨?_, fun k hk => ?_⟩
   ·rw [xpZ f u hi]
    omega
   ·have := h2 k hk
    have hb : -1000 ≤ (l.getD i []).getD k 0 ∧ (l.getD i []).getD k 0 ≤ 1000 := by
     unfold CO at hc
     rcases hk with rfl | rfl | rfl | rfl <;> omega
    have := xkv hm.1 hm.2 hb.1 hb.2
    rw [xmg f u k hi]
    omega)
  (fun i s hi ⟨h, h2⟩ => by
   have hc := xvg hv.1 _ (xaW hi)
   have hm := xs1 ht hc
   have h60 := hv.2
   have p2 := h2 2 (by simp)
   have p3 := h2 3 (by simp)
   have p4 := h2 4 (by simp)
   have p5 := h2 5 (by simp)
   have m2 := xkv (x := (l.getD i []).getD 2 0) hm.1 hm.2 (by unfold CO at hc; omega) (by unfold CO at hc; omega)
   have m3 := xkv (x := (l.getD i []).getD 3 0) hm.1 hm.2 (by unfold CO at hc; omega) (by unfold CO at hc; omega)
   have m4 := xkv (x := (l.getD i []).getD 4 0) hm.1 hm.2 (by unfold CO at hc; omega) (by unfold CO at hc; omega)
   have m5 := xkv (x := (l.getD i []).getD 5 0) hm.1 hm.2 (by unfold CO at hc; omega) (by unfold CO at hc; omega)
   have hw : imax 0 (IntKind.i64.wrap (imin ((l.getD i []).getD 1 0) u - imax ((l.getD i []).getD 0 0) f)) = mins f u (l.getD i []) := by
    unfold mins
    rw [xhn, xgs, xgs, xav (by unfold CO VT at *; omega)]
   unfold xd0 xrb xra xq9 xq8 xq7
   have g5 : ∀ a b c d e f : Int, gi [.i a, .i b, .i c, .i d, .i e, .i f] 5 = f := fun _ _ _ _ _ _ => rfl
   simp only [gi_z, gi_1, gi_2, gi_3, gi_4, g5, dlt hi, xaa (xa1 hi), Int.toNat_natCast, xaA (show i < 4611686018427387904 by omega), xmg f u _ hi, xpZ f u hi, hw]
   generalize hmm : mins f u (l.getD i []) = M at *
   rw [xav (show _ ≤ M * (l.getD i []).getD 2 0 ∧ _ by omega), xav (show _ ≤ M * (l.getD i []).getD 3 0 ∧ _ by omega), xav (show _ ≤ M * (l.getD i []).getD 4 0 ∧ _ by omega), xav (show _ ≤ M * (l.getD i []).getD 5 0 ∧ _ by omega)]
   have : (0 : Int) ≤ i ∧ (i : Int) ≤ 60 := by omega
   rw [xav (by omega), xav (by omega), xav (by omega), xav (by omega), xav (by omega)])
  (fun s _ => by
   unfold xd0
   have g5 : ∀ a b c d e f : Int, gi [.i a, .i b, .i c, .i d, .i e, .i f] 5 = f := fun _ _ _ _ _ _ => rfl
   simp only [gi_z, gi_1, gi_2, gi_3, gi_4, g5, dnlt, List.take_length]) (s := ()) (by simp [covL, sumL])
 have e0 : xfj f u l = [.i (covL f u (l.take 0)), .i ((0 : Nat) : Int), .i (sumL f u 4 (l.take 0)), .i (sumL f u 5 (l.take 0)), .i (sumL f u 2 (l.take 0)), .i (sumL f u 3 (l.take 0))] := by
  unfold xfj
  simp [covL, sumL]
 unfold xdj
 rw [e0]
 exact ⟨key.1, key.2.1⟩
theorem xAJ (f u : Int) (l : List (List Int)) : xfH f u l ∧ xbU f u l = sumE f u l ∧ xeZ f u l = sumV f u 2 l ∧ xeY f u l = sumV f u 3 l ∧ xeX f u l = sumV f u 4 l ∧ xeW f u l = sumV f u 5 l := by
 have rc := xrh l
 have ra : (!xa0 l || !xcG f u) = decide (¬ VC l ∨ ¬ VT f u) := by
  rw [rc.2, xAI, Bool.eq_iff_iff]
  simp
 unfold xfH xbU xq2 xeZ xq6 xeY xq5 xeX xq4 xeW xq3 sumV sumE
 rw [ra]
 by_cases h : ¬ VC l ∨ ¬ VT f u
 ·rw [decide_eq_true h]
  refine ⟨⟨rc.1, fun h => by cases h⟩, ?_⟩
  simp [if_pos h]
 ·rw [decide_eq_false h, if_neg h]
  have hv : VC l := Decidable.byContradiction fun hn => h (.inl hn)
  have ht : VT f u := Decidable.byContradiction fun hn => h (.inr hn)
  obtain ⟨h1, h2⟩ := xAK f u l hv ht
  refine ⟨⟨rc.1, fun _ => h1⟩, ?_⟩
  rw [h2]
  have g5 : ∀ a b c d e f : Int, gi [.i a, .i b, .i c, .i d, .i e, .i f] 5 = f := fun _ _ _ _ _ _ => rfl
  have hw : IntKind.i64.wrap (u - f) = u - f := xav (by unfold VT at ht; omega)
  simp only [gi_1, gi_2, gi_3, gi_4, gi_z, cond_false, g5, hw]
  by_cases hc : u - f - covL f u l > 0
  ·rw [decide_eq_true (show covL f u l < u - f by omega), if_pos hc]; exact ⟨rfl, rfl, rfl, rfl, rfl⟩
  ·rw [decide_eq_false (show ¬ covL f u l < u - f by omega), if_neg hc]; exact ⟨rfl, rfl, rfl, rfl, rfl⟩
theorem xDJ {n : Int} (h : -1000000000000000 ≤ n ∧ n ≤ 1000000000000000) : xiO n 100 = n / 100 := by
 unfold xiO
 have h1 := Int.mul_tdiv_add_tmod n 100
 by_cases hn : 0 ≤ n
 ·have e1 : n.tdiv 100 = n / 100 := Int.tdiv_eq_ediv_of_nonneg hn
  have e2 : ¬ n.tmod 100 < 0 := by rw [e1] at h1; omega
  rw [decide_eq_false e2, e1, cond_false, xav (by omega)]
 ·have e1 : n.tdiv 100 = -((-n) / 100) := by
   rw [show n = -(-n) by omega, Int.neg_tdiv, Int.tdiv_eq_ediv_of_nonneg (by omega)]
   simp
  rw [e1] at h1 ⊢
  by_cases e2 : n.tmod 100 < 0
  ·rw [decide_eq_true e2, cond_true, xav (x := -((-n) / 100)) (by omega), xav (by omega)]
   omega
  ·rw [decide_eq_false e2, cond_false, xav (by omega)]
   omega
theorem xF9 {n : Int} (h : -1000000000000000 ≤ n ∧ n ≤ 1000000000000000) : xla n 100 = -((-n) / 100) := by
 unfold xla
 have h1 := Int.mul_tdiv_add_tmod n 100
 by_cases hn : 0 ≤ n
 ·have e1 : n.tdiv 100 = n / 100 := Int.tdiv_eq_ediv_of_nonneg hn
  rw [e1] at h1 ⊢
  by_cases e2 : n.tmod 100 > 0
  ·rw [decide_eq_true e2, cond_true, xav (x := n / 100) (by omega), xav (by omega)]
   omega
  ·rw [decide_eq_false e2, cond_false, xav (by omega)]
   omega
 ·have e1 : n.tdiv 100 = -((-n) / 100) := by
   rw [show n = -(-n) by omega, Int.neg_tdiv, Int.tdiv_eq_ediv_of_nonneg (by omega)]
   simp
  rw [e1] at h1 ⊢
  have e2 : ¬ n.tmod 100 > 0 := by omega
  rw [decide_eq_false e2, cond_false, xav (by omega)]
theorem xy7 {x y s t : Int} (hx : -1000000 ≤ x ∧ x ≤ 1000000) (hy : -1000000 ≤ y ∧ y ≤ 1000000) (hs : -600000000000 ≤ s ∧ s ≤ 600000000000) (ht : -600000000000 ≤ t ∧ t ≤ 600000000000) :
  xd9 x y s t ∧ xey x y s t = lo x s ∧ xex x y s t = hi y t := by
 unfold xd9 xey xex lo hi
 rw [xav (x := 100 * x) (by omega), xav (x := 100 * y) (by omega), xav (x := 100 * x + s) (by omega), xav (x := 100 * y + t) (by omega), xDJ (by omega), xF9 (by omega)]
 exact ⟨⟨⟨by decide, by decide⟩, by decide, by decide⟩, rfl, rfl⟩
theorem xCb (f u : Int) (l c : List (List Int)) : xf3 f u l c ∧ xhB f u l c = xig f u l c ∧ xfv f u l c = xiv f u l c := by
 obtain ⟨sp, s4, s0, s1, s2, s3⟩ := xAJ f u c
 have hv := xsn l
 unfold xf3 xhB xfv xpk
 rw [hv.2, s4]
 by_cases hl : VL l
 ·have E : xig f u l c = if sumE f u c ≠ 0 then sumE f u c else if ∃ b ∈ l, ¬ VB (mvF f u c b) then 3 else 0 := if_neg (fun h => h hl)
  rw [decide_eq_true hl]
  by_cases hs : sumE f u c = 0
  ·rw [hs] at E
   rw [if_neg (by simp)] at E
   have hlen := hl.2.1
   have key := xa6 (step := xeA f u l c) l.length (fun i => !decide (VB (mvF f u c (l.getD i [])))) (fun i => [.i 0, .i i, .r ((l.take i).map (mvF f u c))]) (fun i => []) 0 2 [.i 0, .i l.length, .r (l.map (mvF f u c))]
    (fun i hin => by
     have hb := hl.2.2 _ (xaW hin)
     unfold VB at hb
     obtain ⟨px, x0, x1⟩ := xy7 (x := (l.getD i []).getD 0 0) (y := (l.getD i []).getD 1 0) (by omega) (by omega) (xmf f u c (k := 2) (by simp)) (xmf f u c (k := 3) (by simp))
     obtain ⟨py, y0, y1⟩ := xy7 (x := (l.getD i []).getD 2 0) (y := (l.getD i []).getD 3 0) (by omega) (by omega) (xmf f u c (k := 4) (by simp)) (xmf f u c (k := 5) (by simp))
     have em : xji f u l c [.i 0, .i i, .r ((l.take i).map (mvF f u c))] = mvF f u c (l.getD i []) := by
      unfold xji xpl
      simp only [gi_1, gi_z, Int.toNat_natCast, s0, s1, s2, s3, x0, x1, y0, y1]
      rfl
     unfold xeA
     rw [em]
     simp only [gi_z, gi_1, gi_2, gr_z, gr_1, gr_2, dlt hin, xaa (xa1 hin), Int.toNat_natCast, xaA (show i < 4611686018427387904 by omega), s0, s1, s2, s3, xaa px, xaa py, x0, x1, y0, y1]
     have ev : xaQ (lo ((l.getD i []).getD 0 0) (sumV f u 2 c)) (hi ((l.getD i []).getD 1 0) (sumV f u 3 c)) (lo ((l.getD i []).getD 2 0) (sumV f u 4 c)) (hi ((l.getD i []).getD 3 0) (sumV f u 5 c)) = decide (VB (mvF f u c (l.getD i []))) := xuJ (mvF f u c (l.getD i []))
     rw [ev, xaa (xBq (by decide) (by simp only [List.length_map, List.length_take, List.length_cons, List.length_nil]; omega)), xbr hin, List.map_append]
     rfl)
    (by
     unfold xeA
     simp only [gi_z, gi_1, gr_z, gr_1, gr_2, dnlt, List.take_length])
   have e1 : (!true || sumE f u c == (1 : Int)) = false := by rw [hs]; rfl
   rw [e1, hs]
   refine ⟨⟨hv.1, sp, fun _ _ => key.1⟩, ?_⟩
   rcases key.2 with ⟨i, h1, h2, h3, h4⟩ | ⟨h3, h4⟩
   ·have g1 : ∃ b ∈ l, ¬ VB (mvF f u c b) := ⟨_, xaW h1, by simpa using h2⟩
    rw [if_pos g1] at E
    have e : xhU f u l c = (1, []) := h4
    rw [e]
    refine ⟨E.symm, ?_⟩
    unfold xiv
    rw [E, if_neg (by decide)]
    rfl
   ·have g1 : ¬ ∃ b ∈ l, ¬ VB (mvF f u c b) := by
     rintro ⟨b, hb, hn⟩
     obtain ⟨j, hj, rfl⟩ := xe1 hb
     have := h3 j hj
     rw [decide_eq_false hn] at this
     cases this
    rw [if_neg g1] at E
    have e : xhU f u l c = (3, [.i 0, .i l.length, .r (l.map (mvF f u c))]) := h4
    rw [e]
    refine ⟨E.symm, ?_⟩
    unfold xiv
    rw [if_pos E]
    rfl
  ·rw [if_pos hs] at E
   have hb : (sumE f u c != 0) = true := by simpa using hs
   refine ⟨⟨hv.1, sp, fun _ h => ?_⟩, ?_⟩
   ·rw [hb] at h; cases h
   ·unfold xiv
    rw [E, if_neg hs, hb]
    by_cases h1 : sumE f u c = 1
    ·rw [h1]; exact ⟨rfl, rfl⟩
    ·have : (!true || sumE f u c == (1 : Int)) = false := by simpa using h1
     rw [this]
     exact ⟨rfl, rfl⟩
 ·have E : xig f u l c = 1 := if_pos hl
  rw [decide_eq_false hl]
  refine ⟨⟨hv.1, sp, fun h => ?_⟩, E.symm, ?_⟩
  ·simp at h
  ·unfold xiv
   rw [E, if_neg (by decide)]
   rfl
theorem xzS (f u x y z w : Int) (c : List (List Int)) : xeo f u x y z w c ∧ xhi f u x y z w c = allE f u x y z w c ∧ xe0 f u x y z w c = decide (allB f u x y z w c) := by
 obtain ⟨sp, s4, s0, s1, s2, s3⟩ := xAJ f u c
 refine ⟨sp, ?_⟩
 unfold xhi xe0 xjP
 rw [xwQ, xwQ, s4, s0, s1, s2, s3]
 by_cases hn : ¬ VP x y ∨ ¬ VP z w
 ·have E : allE f u x y z w c = 1 := if_pos hn
  have hb : (!decide (VP x y) || !decide (VP z w) || sumE f u c == (1 : Int)) = true := by
   rcases hn with h | h
   ·rw [decide_eq_false h]; rfl
   ·rw [decide_eq_false h]; simp
  rw [hb, E, decide_eq_false (show ¬ allB f u x y z w c from fun k => by have := k.1; rw [E] at this; cases this)]
  exact ⟨rfl, rfl⟩
 ·have h1 : VP x y := Decidable.byContradiction fun k => hn (.inl k)
  have h2 : VP z w := Decidable.byContradiction fun k => hn (.inr k)
  have E : allE f u x y z w c = sumE f u c := if_neg hn
  rw [E, decide_eq_true h1, decide_eq_true h2]
  by_cases hs : sumE f u c = 0
  ·rw [xvk hs, xvk hs, xvk hs, xvk hs, hs]
   unfold VP at h1 h2
   rw [xav (x := z - x) (by omega), xav (x := w - y) (by omega), xav (x := 100 * (z - x)) (by omega), xav (x := 100 * (w - y)) (by omega)]
   refine ⟨rfl, ?_⟩
   rw [Bool.eq_iff_iff, decide_eq_true_eq]
   unfold allB
   rw [E, hs]
   simp [and_assoc]
  ·rw [decide_eq_false (show ¬ allB f u x y z w c from fun k => by have := k.1; rw [E] at this; exact hs this)]
   by_cases h3 : sumE f u c = 1
   ·rw [h3]; exact ⟨rfl, rfl⟩
   ·have e1 : (!true || !true || sumE f u c == (1 : Int)) = false := by simpa using h3
    have e2 : (sumE f u c != (0 : Int)) = true := by simpa using hs
    rw [e1, e2]
    exact ⟨rfl, rfl⟩
theorem xyY {s t x y : Int} (h1 : -1000000000000 ≤ s ∧ s ≤ t ∧ t ≤ 1000000000000) (h2 : -1000000000000 ≤ x ∧ x ≤ y ∧ y ≤ 1000000000000) :
  xb2 s t x y = (if max s x ≤ min t y then 0 else 4) ∧ (max s x ≤ min t y → xhD s t x y = max s x ∧ xhC s t x y = min t y) := by
 have v1 : xc8 s t = true := by unfold xc8; simp only [Bool.and_eq_true, decide_eq_true_eq]; omega
 have v2 : xc8 x y = true := by unfold xc8; simp only [Bool.and_eq_true, decide_eq_true_eq]; omega
 unfold xb2 xhD xhC xdR
 rw [v1, v2, xgs, xhn]
 by_cases h : max s x ≤ min t y
 ·rw [decide_eq_false (show ¬ max s x > min t y by omega)]; simp [h]
 ·rw [decide_eq_true (show max s x > min t y by omega)]; simp [h]
theorem xx2 {a b : List Int} (ha : VB a) (hb : VB b) :
  xfn (a.getD 0 0) (a.getD 1 0) (a.getD 2 0) (a.getD 3 0) (b.getD 0 0) (b.getD 1 0) (b.getD 2 0) (b.getD 3 0) = (if MB a b then 0 else 4) ∧
  (MB a b → [xfo (a.getD 0 0) (a.getD 1 0) (a.getD 2 0) (a.getD 3 0) (b.getD 0 0) (b.getD 1 0) (b.getD 2 0) (b.getD 3 0), xgE (a.getD 0 0) (a.getD 1 0) (a.getD 2 0) (a.getD 3 0) (b.getD 0 0) (b.getD 1 0) (b.getD 2 0) (b.getD 3 0),
   xgD (a.getD 0 0) (a.getD 1 0) (a.getD 2 0) (a.getD 3 0) (b.getD 0 0) (b.getD 1 0) (b.getD 2 0) (b.getD 3 0), xgC (a.getD 0 0) (a.getD 1 0) (a.getD 2 0) (a.getD 3 0) (b.getD 0 0) (b.getD 1 0) (b.getD 2 0) (b.getD 3 0)] = mtB a b) := by
 unfold xfn xgC xgD xgE xfo xaV
 rw [xuJ, xuJ, decide_eq_true ha, decide_eq_true hb]
 unfold VB at ha hb
 obtain ⟨x1, x2⟩ := xyY (s := a.getD 0 0) (t := a.getD 1 0) (x := b.getD 0 0) (y := b.getD 1 0) (by omega) (by omega)
 obtain ⟨y1, y2⟩ := xyY (s := a.getD 2 0) (t := a.getD 3 0) (x := b.getD 2 0) (y := b.getD 3 0) (by omega) (by omega)
 rw [x1, y1]
 simp only [Bool.and_self, Bool.not_true, cond_false]
 by_cases h1 : max (a.getD 0 0) (b.getD 0 0) ≤ min (a.getD 1 0) (b.getD 1 0)
 ·obtain ⟨x3, x4⟩ := x2 h1
  by_cases h2 : max (a.getD 2 0) (b.getD 2 0) ≤ min (a.getD 3 0) (b.getD 3 0)
  ·obtain ⟨y3, y4⟩ := y2 h2
   rw [if_pos h1, if_pos h2, if_pos (show MB a b from ⟨h1, h2⟩)]
   refine ⟨rfl, fun _ => ?_⟩
   rw [x3, x4, y3, y4]
   rfl
  ·rw [if_pos h1, if_neg h2, if_neg (show ¬ MB a b from fun h => h2 h.2)]
   exact ⟨rfl, fun h => absurd h.2 h2⟩
 ·rw [if_neg h1, if_neg (show ¬ MB a b from fun h => h1 h.1)]
  exact ⟨rfl, fun h => absurd h.1 h1⟩
theorem xDf (a0 a1 a2 a3 : Int) (l : List (List Int)) : xg1 a0 a1 a2 a3 l ∧ xjN a0 a1 a2 a3 l = cutE [a0, a1, a2, a3] l ∧ xjO a0 a1 a2 a3 l = cutL [a0, a1, a2, a3] l := by
 have hv := xsn l
 have hb : xaQ a0 a1 a2 a3 = decide (VB [a0, a1, a2, a3]) := xuJ [a0, a1, a2, a3]
 unfold xg1 xjN xjO cutL cutE
 rw [hv.2, hb]
 by_cases h1 : VL l
 ·by_cases h2 : VB [a0, a1, a2, a3]
  ·have hlen := h1.2.1
   have key := xgN (σ := Unit) (step := xfl a0 a1 a2 a3 l) l.length (fun i _ => [.i i, .r (cutP [a0, a1, a2, a3] (l.take i))]) (fun _ s => s) (fun _ _ => True) 2 (fun _ => [.i l.length, .r (cutP [a0, a1, a2, a3] l)])
    (fun _ _ _ _ => trivial)
    (fun i s hi _ => by
     have hc := h1.2.2 _ (xaW hi)
     obtain ⟨m1, m2⟩ := xx2 hc h2
     have e : cutP [a0, a1, a2, a3] (l.take (i + 1)) = cutP [a0, a1, a2, a3] (l.take i) ++ (if MB (l.getD i []) [a0, a1, a2, a3] then [mtB (l.getD i []) [a0, a1, a2, a3]] else []) := by
      unfold cutP
      rw [xbr hi, List.filterMap_append]
      by_cases hm : MB (l.getD i []) [a0, a1, a2, a3]
      ·simp only [List.filterMap, if_pos hm]
      ·simp only [List.filterMap, if_neg hm]
     have hle := xwo [a0, a1, a2, a3] (l.take i)
     rw [List.length_take] at hle
     unfold xfl xrc xmC xmB xmA xmz
     rw [e]
     simp only [gi_z, gi_1, gr_z, gr_1, dlt hi, xaa (xa1 hi), Int.toNat_natCast, xaA (show i < 4611686018427387904 by omega)]
     have m1 : xfn ((l.getD i []).getD 0 0) ((l.getD i []).getD 1 0) ((l.getD i []).getD 2 0) ((l.getD i []).getD 3 0) a0 a1 a2 a3 = _ := m1
     rw [m1]
     by_cases hm : MB (l.getD i []) [a0, a1, a2, a3]
     ·have m2 := m2 hm
      simp only [if_pos hm, beq_self_eq_true, cond_true]
      have m2 : [xfo ((l.getD i []).getD 0 0) ((l.getD i []).getD 1 0) ((l.getD i []).getD 2 0) ((l.getD i []).getD 3 0) a0 a1 a2 a3, _, _, _] = _ := m2
      rw [xaa (xBq (by decide) (by simp only [List.length_cons, List.length_nil]; omega))]
      rw [← m2]
      rfl
     ·simp only [if_neg hm, List.append_nil]
      rfl)
    (fun s _ => by
     unfold xfl
     simp only [gi_z, gi_1, gr_z, gr_1, dnlt, List.take_length]) (s := ()) trivial
   rw [decide_eq_true h1, decide_eq_true h2]
   have e : xkr a0 a1 a2 a3 l = _ := key.2.1
   rw [e]
   simp only [Bool.not_true, Bool.or_self, cond_false, h1, h2, not_true, or_self, if_false, gr_z, gr_1]
   refine ⟨⟨hv.1, fun _ => key.1⟩, ?_⟩
   cases hcp : cutP [a0, a1, a2, a3] l with
   | nil => simp
   | cons x r =>
    have : (((x :: r).length : Int) == (0 : Int)) = false := by simp; omega
    rw [this]
    simp
  ·rw [decide_eq_true h1, decide_eq_false h2]
   simp [h1, h2, hv.1]
 ·rw [decide_eq_false h1]
  simp [h1, hv.1]
end Go.Proofs.YtnijhjpaplihbaaGreat
set_option linter.unusedVariables false
set_option maxRecDepth 100000
set_option linter.unusedSimpArgs false
set_option linter.unusedSectionVars false
namespace Go.Proofs.YtnijhjpaplihbaaGreat
open Go Go.Sy
theorem xqZ {a b : List Int} : Si.xcQ a b = Si.xcQ b a := by
 unfold Si.xcQ
 rw [Bool.eq_iff_iff]
 simp only [Bool.and_eq_true, beq_iff_eq]
 constructor <;> rintro ⟨h1, h2⟩ <;> exact ⟨h1.symm, h2.symm⟩
theorem xzL {a b c : List Int} (h1 : Si.xcQ a b = true) (h2 : Si.xcQ b c = true) : Si.xcQ a c = true := by
 unfold Si.xcQ at *
 simp only [Bool.and_eq_true, beq_iff_eq] at *
 exact ⟨h2.1.trans h1.1, h2.2.trans h1.2⟩
theorem xwN (a : List Int) : Si.xcQ a a = true := by simp [Si.xcQ]
def dupP (l : List (List Int)) (i : Nat) : Prop := ∃ p, p < i ∧ ∃ q, q < p ∧ Si.xcQ (l.getD p []) (l.getD q []) = true
def mst (l : List (List Int)) (i : Nat) : List (List Int) × List (List Int) := Si.mrgs 0 (l.take i) ([], [])
theorem xCl {l : List (List Int)} {i : Nat} (h : i < l.length) : mst l (i + 1) = Si.mrg i (l.getD i []) (mst l i) := by
 unfold mst
 rw [Si.xbr h, Si.xoH]
 simp only [Si.mrgs, List.length_take, Nat.zero_add, Nat.min_eq_left (show i ≤ l.length by omega)]
theorem mst1 (l : List (List Int)) : ∀ i, i ≤ l.length → (dupP l i → (mst l i).1.length < i) ∧ (¬ dupP l i → (mst l i).1 = l.take i) ∧ (mst l i).1.length ≤ i ∧ ∀ j, j < i → ∃ o ∈ (mst l i).1, Si.xcQ (l.getD j []) o = true
 | 0, _ => ⟨fun ⟨p, hp, _⟩ => by omega, fun _ => by simp [mst, Si.mrgs], by simp [mst, Si.mrgs], fun j hj => by omega⟩
 | i + 1, hi => by
  obtain ⟨h1, h2, h3, h4⟩ := mst1 l i (by omega)
  have hs := xCl (show i < l.length from hi)
  unfold Si.mrg at hs
  cases hf : (mst l i).1.find? (Si.xcQ (l.getD i [])) with
  | none =>
   rw [hf] at hs
   have hs : (mst l (i + 1)).1 = (mst l i).1 ++ [l.getD i []] := by rw [hs]
   have hno : ∀ a ∈ (mst l i).1, Si.xcQ (l.getD i []) a = false := fun a ha => by simpa using List.find?_eq_none.1 hf a ha
   have noq : ∀ q, q < i → Si.xcQ (l.getD i []) (l.getD q []) = false := by
    intro q hq
    rw [Bool.eq_false_iff]
    intro h
    obtain ⟨o, ho, k⟩ := h4 q hq
    have := hno o ho
    rw [xzL h k] at this
    cases this
   have hd : dupP l (i + 1) ↔ dupP l i := by
    constructor
    ·rintro ⟨p, hp, q, hq, h⟩
     by_cases e : p = i
     ·subst e
      rw [noq q hq] at h
      cases h
     ·exact ⟨p, by omega, q, hq, h⟩
    ·rintro ⟨p, hp, q, hq, h⟩
     exact ⟨p, by omega, q, hq, h⟩
   rw [hd, hs]
   refine ⟨fun h => by have := h1 h; simp; omega, fun h => by rw [h2 h, Si.xbr hi], by simp; omega, fun j hj => ?_⟩
   by_cases e : j = i
   ·subst e
    exact ⟨l.getD j [], by simp, xwN _⟩
   ·obtain ⟨o, ho, k⟩ := h4 j (by omega)
    exact ⟨o, by simp [ho], k⟩
  | some o =>
   rw [hf] at hs
   have hs1 : (mst l (i + 1)).1 = (mst l i).1 := by
    rw [hs]
    show (bif _ then _ else _ : List (List Int) × List (List Int)).1 = _
    cases Si.xwO o (l.getD i []) <;> rfl
   have ho := List.mem_of_find?_eq_some hf
   have hok : Si.xcQ (l.getD i []) o = true := List.find?_some hf
   have hdup : dupP l (i + 1) := by
    by_cases hd : dupP l i
    ·obtain ⟨p, hp, q, hq, h⟩ := hd
     exact ⟨p, by omega, q, hq, h⟩
    ·rw [h2 hd] at ho
     obtain ⟨q, hq, e⟩ := List.getElem_of_mem ho
     have hq' : q < i := by simp at hq; omega
     refine ⟨i, by omega, q, hq', ?_⟩
     have : l.getD q [] = o := by
      rw [← e, List.getElem_take, List.getD_eq_getElem?_getD, List.getElem?_eq_getElem (by omega)]; rfl
     rw [this]; exact hok
   rw [hs1]
   refine ⟨fun _ => by omega, fun h => absurd hdup h, by omega, fun j hj => ?_⟩
   by_cases e : j = i
   ·subst e; exact ⟨o, List.mem_of_find?_eq_some hf, hok⟩
   ·exact h4 j (by omega)
theorem xw5 {rp : List (List Int)} (h13 : Si.El13 rp) (h1 : ∀ r ∈ rp, RVr r) (h2 : rp.length ≤ 60) : (xa9 rp).length < rp.length ↔ dupP rp rp.length := by
 rw [xpw h13 h1 h2]
 obtain ⟨a, b, c, _⟩ := mst1 rp rp.length (Nat.le_refl _)
 unfold mst at a b c
 rw [List.take_length] at a b c
 constructor
 ·intro h
  apply Classical.byContradiction
  intro k
  rw [b k] at h
  omega
 ·exact a
section
variable (f : Int) (base fc rp : List (List Int))
theorem xGc (hl : rp.length ≤ 60) : xay (xc1 f base fc rp) (xfC f base fc rp) ∧ (xiz f base fc rp).1.beq 1 = !tsB ((rp.getD 0 []).getD 3 0) f rp := by
 refine xdL (step := xc1 f base fc rp) rp.length (fun j xs => ∃ last, xs = [.i 0, .i last, .i (j : Int)] ∧ tsB ((rp.getD 0 []).getD 3 0) f rp = tsB ((rp.getD 0 []).getD 3 0) last (rp.drop j))
  (fun res => res.1.beq 1 = !tsB ((rp.getD 0 []).getD 3 0) f rp)
  (fun j xs hj ⟨last, e, hts⟩ => ?_) (fun xs ⟨last, e, hts⟩ => ?_) (xs := xfC f base fc rp) ⟨f, rfl, rfl⟩
 ·subst e
  have h0 : inR (0 : Int) rp := by unfold inR; omega
  have hjR := xa1 hj
  rw [xhE hj] at hts
  rw [xyR] at hts
  unfold xc1
  simp only [gi_1, gi_2, gi_z, dlt hj, xaa (xa1 hj), Int.toNat_natCast, xaA (show j < 4611686018427387904 by omega), Int.toNat_zero]
  rw [xaa (fun _ => hjR), xaa (fun _ => hjR), xaa (fun _ => hjR), xaa (fun _ => h0), xaa (fun _ => h0), xaa (fun _ => h0)]
  by_cases h1 : (rp.getD j []).getD 2 0 < last
  ·rw [decide_eq_true h1, Bool.true_or, cond_true]
   refine .inr ⟨0, [], rfl, ?_⟩
   rw [hts, decide_eq_false (show ¬ last ≤ (rp.getD j []).getD 2 0 by omega)]
   rfl
  ·rw [decide_eq_false h1, Bool.false_or]
   by_cases h2 : (rp.getD j []).getD 3 0 = (rp.getD 0 []).getD 3 0
   ·have e2 : ((rp.getD j []).getD 3 0 != (rp.getD 0 []).getD 3 0) = false := by simp only [h2, bne_self_eq_false]
    rw [e2, cond_false]
    refine .inl ⟨_, rfl, _, rfl, ?_⟩
    rw [hts, decide_eq_true (show last ≤ (rp.getD j []).getD 2 0 by omega), h2]
    simp
   ·have e2 : ((rp.getD j []).getD 3 0 != (rp.getD 0 []).getD 3 0) = true := by rw [bne_iff_ne]; exact h2
    rw [e2, cond_true]
    refine .inr ⟨0, [], rfl, ?_⟩
    have e3 : ((rp.getD j []).getD 3 0 == (rp.getD 0 []).getD 3 0) = false := by rw [beq_eq_false_iff_ne]; exact h2
    rw [hts, e3]
    simp
 ·subst e
  refine ⟨2, [.i 0, .i last, .i rp.length], ?_, ?_⟩
  ·unfold xc1
   simp only [gi_1, gi_2, gi_z, dnlt]
  ·rw [hts, List.drop_length]
   rfl
theorem xGa (hl : rp.length ≤ 60) {i : Nat} (hi : i < rp.length) (x : Int) : xay (xbv f base fc rp [.i x, .i (i : Int)]) (xhr f base fc rp [.i x, .i (i : Int)]) ∧
  (((xdO f base fc rp [.i x, .i (i : Int)]).1 = 1 ∧ ∃ q, q < i ∧ Si.xcQ (rp.getD i []) (rp.getD q []) = true) ∨
   ((xdO f base fc rp [.i x, .i (i : Int)]).1 = 3 ∧ ∀ q, q < i → Si.xcQ (rp.getD i []) (rp.getD q []) = false)) := by
 have key := xa6 (step := xbv f base fc rp [.i x, .i (i : Int)]) i (fun q => Si.xcQ (rp.getD i []) (rp.getD q [])) (fun q => [.i x, .i (q : Int)]) (fun _ => []) 0 2 [.i x, .i (i : Int)]
  (fun q hq => by
   have hqR : inR (q : Int) rp := xa1 (by omega)
   have hiR : inR (i : Int) rp := xa1 hi
   unfold xbv
   simp only [gi_1, gi_z, Int.toNat_natCast, dlt hq, xaa hqR, xaa hiR, xaA (show q < 4611686018427387904 by omega)]
   rw [xaa (fun _ => hiR), xaa (fun _ => hiR), xaa (fun _ => hiR), xaa (fun _ => hqR), xaa (fun _ => hqR), xaa (fun _ => hqR)]
   have e : Si.xcQ (rp.getD i []) (rp.getD q []) = ((rp.getD i []).getD 0 (0 : Int) == (rp.getD q []).getD 0 (0 : Int) && (rp.getD i []).getD 1 (0 : Int) == (rp.getD q []).getD 1 (0 : Int)) := by
    rw [xqZ]; rfl
   rw [e])
  (by
   unfold xbv
   simp only [gi_1, gi_z, dnlt])
 refine ⟨key.1, ?_⟩
 rcases key.2 with ⟨q, q1, q2, _, q4⟩ | ⟨q3, q4⟩
 ·exact .inl ⟨congrArg Prod.fst q4, q, q1, q2⟩
 ·exact .inr ⟨congrArg Prod.fst q4, q3⟩
theorem xD2 (hl : rp.length ≤ 60) {i : Nat} (hi : i < rp.length) (x : Int) (h : (xdO f base fc rp [.i x, .i (i : Int)]).1 = 3) : gi (xdO f base fc rp [.i x, .i (i : Int)]).2 0 = x := by
 have key := xa6 (step := xbv f base fc rp [.i x, .i (i : Int)]) i (fun q => Si.xcQ (rp.getD i []) (rp.getD q [])) (fun q => [.i x, .i (q : Int)]) (fun _ => []) 0 2 [.i x, .i (i : Int)]
  (fun q hq => by
   have hqR : inR (q : Int) rp := xa1 (by omega)
   have hiR : inR (i : Int) rp := xa1 hi
   unfold xbv
   simp only [gi_1, gi_z, Int.toNat_natCast, dlt hq, xaa hqR, xaa hiR, xaA (show q < 4611686018427387904 by omega)]
   rw [xaa (fun _ => hiR), xaa (fun _ => hiR), xaa (fun _ => hiR), xaa (fun _ => hqR), xaa (fun _ => hqR), xaa (fun _ => hqR)]
   have e : Si.xcQ (rp.getD i []) (rp.getD q []) = ((rp.getD i []).getD 0 (0 : Int) == (rp.getD q []).getD 0 (0 : Int) && (rp.getD i []).getD 1 (0 : Int) == (rp.getD q []).getD 1 (0 : Int)) := by
    rw [xqZ]; rfl
   rw [e])
  (by
   unfold xbv
   simp only [gi_1, gi_z, dnlt])
 rcases key.2 with ⟨q, _, _, _, q4⟩ | ⟨q3, q4⟩
 ·have e : xdO f base fc rp [.i x, .i (i : Int)] = (1, []) := q4
  rw [e] at h; cases h
 ·have e : xdO f base fc rp [.i x, .i (i : Int)] = (3, [.i x, .i (i : Int)]) := q4
  rw [e]; rfl
theorem xGb (hl : rp.length ≤ 60) : xay (xc0 f base fc rp) (xfB f base fc rp) ∧ ((xkI f base fc rp).1.beq 1 = true ↔ dupP rp rp.length) := by
 refine xdL (step := xc0 f base fc rp) rp.length (fun j xs => ∃ x, xs = [.i x, .i (j : Int)] ∧ ¬ dupP rp j)
  (fun res => res.1.beq 1 = true ↔ dupP rp rp.length)
  (fun j xs hj ⟨x, e, hd⟩ => ?_) (fun xs ⟨x, e, hd⟩ => ?_) (xs := xfB f base fc rp) ⟨_, rfl, fun ⟨p, hp, _⟩ => by omega⟩
 ·subst e
  obtain ⟨l1, l2⟩ := xGa f base fc rp hl hj x
  unfold xc0
  simp only [gi_1, gi_z, dlt hj]
  rw [xaa l1]
  rcases l2 with ⟨h1, q, hq, h2⟩ | ⟨h1, h2⟩
  ·refine .inr ⟨0, [], by rw [h1]; rfl, ?_⟩
   exact ⟨fun _ => ⟨j, hj, q, hq, h2⟩, fun _ => rfl⟩
  ·refine .inl ⟨[.i x, .i ((j + 1 : Nat) : Int)], ?_, x, rfl, ?_⟩
   ·rw [h1, xD2 f base fc rp hl hj x h1, xaA (show j < 4611686018427387904 by omega)]
    rfl
   ·rintro ⟨p, hp, q, hq, h⟩
    by_cases e : p = j
    ·subst e; rw [h2 q hq] at h; cases h
    ·exact hd ⟨p, by omega, q, hq, h⟩
 ·subst e
  refine ⟨2, [.i x, .i rp.length], ?_, ?_⟩
  ·unfold xc0
   simp only [gi_1, gi_z, dnlt]
  ·exact ⟨fun h => (by cases h), fun h => absurd h hd⟩
theorem xsq (h13 : Si.El13 rp) : xdf f base fc rp ∧ xaJ f base fc rp = svE f base fc rp := by
 have hm := (Si.xuL rp).1
 have hv : xdh rp = xaq rp := (Si.xvi rp).symm
 have hb := xsn base
 have hc := xrh fc
 unfold xdf xaJ xnR svE
 rw [hb.2, hc.2, hv]
 have hcond : (!decide (VL base) || !decide (VC fc) || decide (f < 0) || decide (f > 10000000) || !xaq rp) = !decide (xaq rp = true ∧ VL base ∧ VC fc ∧ 0 ≤ f ∧ f ≤ 10000000) := by
  rw [Bool.eq_iff_iff]
  cases xaq rp <;> by_cases h2 : VL base <;> by_cases h3 : VC fc <;> simp [h2, h3] <;> omega
 rw [hcond]
 by_cases h : xaq rp = true ∧ VL base ∧ VC fc ∧ 0 ≤ f ∧ f ≤ 10000000
 ·obtain ⟨hl, hR⟩ := (xkU rp).1 h.1
  obtain ⟨g1, g2⟩ := xGc f base fc rp hl
  obtain ⟨g3, g4⟩ := xGb f base fc rp hl
  rw [decide_eq_true h, if_pos h, g2]
  refine ⟨⟨hb.1, fun _ => hc.1, fun _ => hm, fun _ => ⟨g1, fun _ => g3⟩⟩, ?_⟩
  rw [Bool.not_true, cond_false]
  cases tsB ((rp.getD 0 []).getD 3 0) f rp with
  | false => rfl
  | true =>
   rw [Bool.not_true, cond_false, if_pos rfl]
   by_cases hlt : (xa9 rp).length < rp.length
   ·rw [g4.2 ((xw5 h13 hR hl).1 hlt), if_pos hlt]; rfl
   ·rw [if_neg hlt]
    cases hq : (xkI f base fc rp).1.beq 1 with
    | true => exact absurd ((xw5 h13 hR hl).2 (g4.1 hq)) hlt
    | false => rfl
 ·rw [decide_eq_false h, if_neg h]
  exact ⟨⟨hb.1, fun _ => hc.1, fun _ => hm, fun h => (by cases h)⟩, rfl⟩
end
theorem xCL (n : Int) (wr : List (List Int)) (hw : wr.length ≤ 9223372036854775807) : xd5 n wr ∧ xc6 n wr = wB n (-1) wr := by
 have key := xdL (step := xd6 n wr) wr.length (fun j xs => xs = [.b false, .i (j : Int)] ∧ ∃ last, (-1 ≤ last) ∧ (j = 0 → last = -1) ∧ (0 < j → last = (wr.getD (j - 1) []).getD 0 0) ∧ wB n (-1) wr = wB n last (wr.drop j))
  (fun res => res.1.beq 1 = !wB n (-1) wr)
  (fun j xs hj ⟨e, last, hge, hl0, hl1, hts⟩ => by
   subst e
   have hjR := xa1 hj
   rw [xhE hj] at hts
   rw [xAp] at hts
   unfold xd6
   simp only [gi_1, gi_z, gb_z, dlt hj, xaa (xa1 hj), Int.toNat_natCast, xfW (show j < 9223372036854775807 by omega)]
   rw [xaa (fun _ => hjR), xaa (fun _ => hjR), xaa (fun _ _ => hjR), xaa (fun _ _ => hjR)]
   have wj : 0 < j → IntKind.i64.wrap ((j : Int) - 1) = ((j - 1 : Nat) : Int) := fun h => by rw [xav (by omega)]; omega
   have hp : decide ((j : Int) > 0) = true → inR (IntKind.i64.wrap ((j : Int) - 1)) wr := fun h => by
    have h := of_decide_eq_true h
    rw [wj (by omega)]; exact xa1 (by omega)
   rw [xaa (fun _ => hp), xaa (fun _ => hp)]
   have hcond : (decide ((wr.getD j []).getD 0 0 < 0) || decide ((wr.getD j []).getD 0 0 ≥ n) || decide ((j : Int) > 0) && decide ((wr.getD j []).getD 0 0 ≤ (wr.getD (IntKind.i64.wrap ((j : Int) - 1)).toNat []).getD 0 0)) = !(decide (last < (wr.getD j []).getD 0 0) && decide ((wr.getD j []).getD 0 0 < n)) := by
    by_cases h0 : j = 0
    ·subst h0
     rw [hl0 rfl]
     rw [Bool.eq_iff_iff]
     simp
     omega
    ·rw [wj (by omega), Int.toNat_natCast, ← hl1 (by omega)]
     rw [Bool.eq_iff_iff]
     simp
     omega
   rw [hcond]
   cases hc : (decide (last < (wr.getD j []).getD 0 0) && decide ((wr.getD j []).getD 0 0 < n)) with
   | true =>
    rw [hc] at hts
    rw [Bool.and_eq_true, decide_eq_true_eq, decide_eq_true_eq] at hc
    exact .inl ⟨_, rfl, rfl, (wr.getD j []).getD 0 0, by omega, fun h => by omega, fun _ => rfl, hts⟩
   | false =>
    rw [hc] at hts
    exact .inr ⟨0, [], rfl, by rw [hts]; rfl⟩)
  (fun xs ⟨e, last, _, _, _, hts⟩ => by
   subst e
   refine ⟨2, [.b false, .i wr.length], ?_, ?_⟩
   ·unfold xd6
    simp only [gi_1, gi_z, gb_z, dnlt]
   ·rw [hts, List.drop_length]
    rfl)
  (xs := xhq n wr) ⟨rfl, -1, by omega, fun _ => rfl, fun h => by omega, rfl⟩
 refine ⟨key.1, ?_⟩
 have e : (xnK n wr).1.beq 1 = !wB n (-1) wr := key.2
 unfold xc6
 rw [e]
 cases wB n (-1) wr <;> rfl
theorem xAO (n : Int) (wr : List (List Int)) (hw : wr.length ≤ 9223372036854775807) : xfF n wr ∧ xhs n wr = isW wr n := by
 have key := xa6 (step := xff n wr) wr.length (fun q => (wr.getD q []).getD 0 0 == n) (fun q => [.b false, .i q]) (fun q => []) 0 2 [.b false, .i wr.length]
  (fun q hq => by
   unfold xff
   simp only [gi_1, gi_z, gb_z, dlt hq, xaa (xa1 hq), Int.toNat_natCast, xfW (show q < 9223372036854775807 by omega)])
  (by
   unfold xff
   simp only [gi_1, gi_z, gb_z, dnlt])
 refine ⟨key.1, ?_⟩
 unfold xhs
 rcases key.2 with ⟨q, q1, q2, q3, q4⟩ | ⟨q3, q4⟩
 ·have e : xmp n wr = (1, []) := q4
  rw [e]
  have : isW wr n = true := xho.2 ⟨q, q1, by
   have q2 : ((wr.getD q []).getD 0 0 == n) = true := q2
   rw [beq_iff_eq] at q2 ⊢
   exact q2.symm⟩
  rw [this]
  rfl
 ·have e : xmp n wr = (3, [.b false, .i wr.length]) := q4
  rw [e]
  have : isW wr n = false := by
   rw [Bool.eq_false_iff]
   intro h
   obtain ⟨q, hq, h2⟩ := xho.1 h
   have q3 : ((wr.getD q []).getD 0 0 == n) = false := q3 q hq
   rw [beq_iff_eq] at h2
   rw [beq_eq_false_iff_ne] at q3
   exact q3 h2.symm
  rw [this]
  rfl
theorem xCc (f : Int) (base fc rp wr : List (List Int)) (hb : base.length ≤ 16) (hr : rp.length ≤ 60) (hR : ∀ r ∈ rp, RVr r) (hw : wr.length ≤ 9223372036854775807) :
  xco f base fc rp wr ∧ xbB f base fc rp wr = (lf fc wr rp 0 base f).1 ∧ xcg f base fc rp wr = (lf fc wr rp 0 base f).2 := by
 have key := xdL (step := xet f base fc rp wr) rp.length (fun j xs => ∃ e0 at_ set, xs = [.i e0, .i at_, .i (j : Int), .r set] ∧ lf fc wr rp 0 base f = lf fc wr (rp.drop j) j set at_)
  (fun res => (res.1 = 1 ∧ lf fc wr rp 0 base f = (gi res.2 0, [])) ∨ (res.1 = 2 ∧ lf fc wr rp 0 base f = (18, [])) ∨ (res.1 = 5 ∧ lf fc wr rp 0 base f = (0, gr res.2 3)))
  (fun j xs hj ⟨e0, at_, set, e, hl⟩ => by
   subst e
   rw [xhE hj] at hl
   rw [xyk] at hl
   have hRj := hR _ (xaW hj)
   obtain ⟨d0, d1, _⟩ := xDM hRj
   rw [d0, d1] at hl
   obtain ⟨m1, m2, m3⟩ := xCb at_ ((rp.getD j []).getD 2 0) set fc
   obtain ⟨l1, l2⟩ := xAO (j : Int) wr hw
   have eg : gi [U.i e0, U.i at_, U.i (j : Int), U.r set] 2 = (j : Int) := by rw [gi_2, gi_z]
   have bx := Si.xzQ ((rp.getD j []).getD 0 0) ((rp.getD j []).getD 1 0) ((rp.getD j []).getD 2 0) ((rp.getD j []).getD 3 0) ((rp.getD j []).getD 4 0) ((rp.getD j []).getD 5 0) ((rp.getD j []).getD 6 0) ((rp.getD j []).getD 7 0) ((rp.getD j []).getD 8 0) ((rp.getD j []).getD 9 0) ((rp.getD j []).getD 10 0) ((rp.getD j []).getD 11 0) ((rp.getD j []).getD 12 0)
   rcases bx with ⟨_, b0, b1, b2, b3, _⟩ | ⟨bad, _⟩
   case inr => exact absurd hRj bad
   have e_1 : xhR f base fc rp wr [U.i e0, U.i at_, U.i (j : Int), U.r set] = (bxD (rp.getD j [])).getD 0 0 := by
    unfold xhR; rw [eg, Int.toNat_natCast]; exact b0
   have e_2 : xhQ f base fc rp wr [U.i e0, U.i at_, U.i (j : Int), U.r set] = (bxD (rp.getD j [])).getD 1 0 := by
    unfold xhQ; rw [eg, Int.toNat_natCast]; exact b1
   have e_3 : xhP f base fc rp wr [U.i e0, U.i at_, U.i (j : Int), U.r set] = (bxD (rp.getD j [])).getD 2 0 := by
    unfold xhP; rw [eg, Int.toNat_natCast]; exact b2
   have e_4 : xhO f base fc rp wr [U.i e0, U.i at_, U.i (j : Int), U.r set] = (bxD (rp.getD j [])).getD 3 0 := by
    unfold xhO; rw [eg, Int.toNat_natCast]; exact b3
   have hq4 : [(bxD (rp.getD j [])).getD 0 0, (bxD (rp.getD j [])).getD 1 0, (bxD (rp.getD j [])).getD 2 0, (bxD (rp.getD j [])).getD 3 0] = bxD (rp.getD j []) := rfl
   obtain ⟨c1, c2, c3⟩ := xDf ((bxD (rp.getD j [])).getD 0 0) ((bxD (rp.getD j [])).getD 1 0) ((bxD (rp.getD j [])).getD 2 0) ((bxD (rp.getD j [])).getD 3 0) (xiv at_ ((rp.getD j []).getD 2 0) set fc)
   rw [hq4] at c2 c3
   unfold xet
   rw [e_1, e_2, e_3, e_4]
   simp only [gi_1, gi_2, gi_z, gr_3, gr_z, dlt hj, xaa (xa1 hj), Int.toNat_natCast, xaA (show j < 4611686018427387904 by omega), xaa m1, m2, m3, xaa c1, c2, c3, xaa l1, l2]
   by_cases h1 : xig at_ ((rp.getD j []).getD 2 0) set fc = 0
   ·rw [if_neg (by simpa using h1)] at hl
    have b1 : (xig at_ ((rp.getD j []).getD 2 0) set fc != 0) = false := by rw [bne_eq_false_iff_eq]; exact h1
    rw [b1, cond_false]
    cases hW : isW wr j with
    | true =>
     rw [if_pos hW] at hl
     rw [Bool.not_true, cond_false]
     exact .inl ⟨_, rfl, _, _, _, rfl, hl⟩
    | false =>
     rw [if_neg (by rw [hW]; simp)] at hl
     rw [Bool.not_false, cond_true]
     rw [if_neg (by simp)] at hl
     by_cases h3 : cutE (bxD (rp.getD j [])) (xiv at_ ((rp.getD j []).getD 2 0) set fc) = 0
     ·rw [if_neg (by simpa using h3)] at hl
      have b3 : (cutE (bxD (rp.getD j [])) (xiv at_ ((rp.getD j []).getD 2 0) set fc) != 0) = false := by
       rw [bne_eq_false_iff_eq]; exact h3
      rw [b3, cond_false]
      exact .inl ⟨_, rfl, _, _, _, rfl, hl⟩
     ·rw [if_pos (by simpa using h3)] at hl
      have b3 : (cutE (bxD (rp.getD j [])) (xiv at_ ((rp.getD j []).getD 2 0) set fc) != 0) = true := by
       rw [bne_iff_ne]; exact h3
      rw [b3, cond_true]
      exact .inr ⟨1, [], rfl, .inr (.inl ⟨rfl, hl⟩)⟩
   ·rw [if_pos (by simpa using h1)] at hl
    have b1 : (xig at_ ((rp.getD j []).getD 2 0) set fc != 0) = true := by rw [bne_iff_ne]; exact h1
    rw [b1, cond_true]
    exact .inr ⟨0, _, rfl, .inl ⟨rfl, by rw [hl, gi_z]⟩⟩)
  (fun xs ⟨e0, at_, set, e, hl⟩ => by
   subst e
   refine ⟨4, [.i e0, .i at_, .i rp.length, .r set], ?_, .inr (.inr ⟨rfl, ?_⟩)⟩
   ·unfold xet
    simp only [gi_1, gi_2, gi_z, gr_3, gr_z, dnlt]
   ·rw [hl, List.drop_length, gr_3, gr_z]
    rfl)
  (xs := xhS f base fc rp wr) ⟨0, f, base, rfl, rfl⟩
 refine ⟨⟨by unfold xcI maxLen; omega, key.1⟩, ?_⟩
 unfold xbB xcg
 have hk : ((xcF f base fc rp wr).1 = 1 ∧ lf fc wr rp 0 base f = (gi (xcF f base fc rp wr).2 0, [])) ∨ ((xcF f base fc rp wr).1 = 2 ∧ lf fc wr rp 0 base f = (18, [])) ∨ ((xcF f base fc rp wr).1 = 5 ∧ lf fc wr rp 0 base f = (0, gr (xcF f base fc rp wr).2 3)) := key.2
 rcases hk with ⟨h1, h2⟩ | ⟨h1, h2⟩ | ⟨h1, h2⟩ <;> rw [h1, h2] <;> exact ⟨rfl, rfl⟩
theorem xyZ {f : Int} {base fc rp : List (List Int)} (g : GS f base fc rp) (wr : List (List Int)) (hw : wr.length ≤ 9223372036854775807) :
  xco f base fc rp wr ∧ xbB f base fc rp wr = (lg fc wr rp 0 base f).1 ∧ xcg f base fc rp wr = (lg fc wr rp 0 base f).2 := by
 obtain ⟨h1, h2, h3⟩ := xCc f base fc rp wr g.vl.2.1 g.ln g.rv hw
 rw [xCp fc wr rp 0 base f g.vl g.rv] at h2 h3
 exact ⟨h1, h2, h3⟩
theorem xzO (f : Int) (base fc rp wr : List (List Int)) (h13 : Si.El13 rp) (hw : wr.length ≤ 9223372036854775807) :
  xen f base fc rp wr ∧ xc7 f base fc rp wr = fE f base fc rp wr ∧ xcp f base fc rp wr = fL f base fc rp wr := by
 obtain ⟨v1, v2⟩ := xsq f base fc rp h13
 obtain ⟨w1, w2⟩ := xCL (rp.length : Int) wr hw
 unfold xen xc7 xcp fE fL
 rw [v2, w2]
 rcases xjh f base fc rp with ⟨e, _⟩ | ⟨e, g, _⟩ | ⟨e, g, _⟩ <;> rw [e]
 ·exact ⟨⟨v1, fun h => (by cases h), fun h => (by cases h)⟩, rfl, rfl⟩
 ·cases hW : wB rp.length (-1) wr with
  | false => exact ⟨⟨v1, fun _ => w1, fun h => (by cases h)⟩, rfl, rfl⟩
  | true => exact ⟨⟨v1, fun _ => w1, fun _ h => (by cases h)⟩, rfl, rfl⟩
 ·cases hW : wB rp.length (-1) wr with
  | false => exact ⟨⟨v1, fun _ => w1, fun h => (by cases h)⟩, rfl, rfl⟩
  | true =>
   obtain ⟨l1, l2, l3⟩ := xyZ g wr hw
   exact ⟨⟨v1, fun _ => w1, fun _ _ => l1⟩, l2, l3⟩
theorem xwU (f most : Int) (base fc rp : List (List Int)) (h13 : Si.El13 rp) : xfh f most base fc rp ∧ xbj f most base fc rp = askE f most base fc rp := by
 obtain ⟨v1, v2⟩ := xsq f base fc rp h13
 refine ⟨v1, ?_⟩
 unfold xbj xnW askE
 rw [v2]
 by_cases h1 : svE f base fc rp = 1 ∨ most < 0 ∨ most > 3
 ·rw [if_pos h1]
  have : (svE f base fc rp == (1 : Int) || decide (most < (0 : Int)) || decide (most > (3 : Int))) = true := by
   simp only [Bool.or_eq_true, beq_iff_eq, decide_eq_true_eq]; omega
  rw [this]; rfl
 ·rw [if_neg h1]
  have : (svE f base fc rp == (1 : Int) || decide (most < (0 : Int)) || decide (most > (3 : Int))) = false := by
   simp only [Bool.or_eq_false_iff, beq_eq_false_iff_ne, decide_eq_false_iff_not, ne_eq]; omega
  rw [this, cond_false]
  by_cases h2 : svE f base fc rp = 0 ∧ rp.length > 12
  ·rw [if_pos h2]
   have : (svE f base fc rp == (0 : Int) && decide ((rp.length : Int) > (12 : Int))) = true := by
    simp only [Bool.and_eq_true, beq_iff_eq, decide_eq_true_eq]; omega
   rw [this]; rfl
  ·rw [if_neg h2]
   have : (svE f base fc rp == (0 : Int) && decide ((rp.length : Int) > (12 : Int))) = false := by
    rw [Bool.eq_false_iff]
    intro h
    simp only [Bool.and_eq_true, beq_iff_eq, decide_eq_true_eq] at h
    omega
   rw [this]; rfl
theorem xsu {b : List Int} (h : VB b) : xaQ (b.getD 0 0) (b.getD 1 0) (b.getD 2 0) (b.getD 3 0) = true := by
 rw [xuJ, decide_eq_true h]
theorem xCd {a b : List Int} (ha : VB a) (hb : VB b) :
  xgI (a.getD 0 0) (a.getD 1 0) (a.getD 2 0) (a.getD 3 0) (b.getD 0 0) (b.getD 1 0) (b.getD 2 0) (b.getD 3 0) = (hul a b).getD 0 0 ∧
  xgH (a.getD 0 0) (a.getD 1 0) (a.getD 2 0) (a.getD 3 0) (b.getD 0 0) (b.getD 1 0) (b.getD 2 0) (b.getD 3 0) = (hul a b).getD 1 0 ∧
  xgG (a.getD 0 0) (a.getD 1 0) (a.getD 2 0) (a.getD 3 0) (b.getD 0 0) (b.getD 1 0) (b.getD 2 0) (b.getD 3 0) = (hul a b).getD 2 0 ∧
  xgF (a.getD 0 0) (a.getD 1 0) (a.getD 2 0) (a.getD 3 0) (b.getD 0 0) (b.getD 1 0) (b.getD 2 0) (b.getD 3 0) = (hul a b).getD 3 0 := by
 unfold xgI xgH xgG xgF xaV xiN xiM xdR
 rw [xsu ha, xsu hb]
 unfold VB at ha hb
 have v : ∀ {s t : Int}, -1000000000000 ≤ s ∧ s ≤ t ∧ t ≤ 1000000000000 → xc8 s t = true := fun {s t} h => by unfold xc8; simp only [Bool.and_eq_true, decide_eq_true_eq]; omega
 rw [v (s := a.getD 0 0) (t := a.getD 1 0) (by omega), v (s := b.getD 0 0) (t := b.getD 1 0) (by omega), v (s := a.getD 2 0) (t := a.getD 3 0) (by omega), v (s := b.getD 2 0) (t := b.getD 3 0) (by omega)]
 simp only [Si.xhn, Si.xgs]
 exact ⟨rfl, rfl, rfl, rfl⟩
theorem xy0 {L : List (List Int)} (hn : L ≠ []) (hb : ∀ b ∈ L, VB b) (hlen : L.length ≤ 4611686018427387903) :
  xeV L ∧ xhA L = (hull L).getD 0 0 ∧ xhz L = (hull L).getD 1 0 ∧ xhy L = (hull L).getD 2 0 ∧ xhx L = (hull L).getD 3 0 := by
 have hpos : 0 < L.length := by
  cases L with
  | nil => exact absurd rfl hn
  | cons a L => simp
 have h0 : xeu L = [.i ((0 + 1 : Nat) : Int), .i ((hull (L.take 1)).getD 0 0), .i ((hull (L.take 1)).getD 1 0), .i ((hull (L.take 1)).getD 2 0), .i ((hull (L.take 1)).getD 3 0)] := by
  unfold xeu
  match L, hpos with
  | b :: L, _ => rfl
 have key := xgN (σ := Unit) (step := xdo L) (L.length - 1)
  (fun j _ => [.i ((j + 1 : Nat) : Int), .i ((hull (L.take (j + 1))).getD 0 0), .i ((hull (L.take (j + 1))).getD 1 0), .i ((hull (L.take (j + 1))).getD 2 0), .i ((hull (L.take (j + 1))).getD 3 0)]) (fun _ s => s) (fun _ _ => True) 1
  (fun _ => [.i (L.length : Int), .i ((hull L).getD 0 0), .i ((hull L).getD 1 0), .i ((hull L).getD 2 0), .i ((hull L).getD 3 0)])
  (fun _ _ _ _ => trivial)
  (fun j _ hj _ => by
   have hj' : j + 1 < L.length := by omega
   have hv1 : VB (hull (L.take (j + 1))) := xxQ (by
    intro k
    have := congrArg List.length k
    rw [List.length_take, List.length_nil] at this
    omega) (fun b hb' => hb b (List.mem_of_mem_take hb'))
   have hv2 := hb _ (xaW hj')
   obtain ⟨j0, j1, j2, j3⟩ := xCd hv1 hv2
   unfold xdo xpg xpf xpe xpd
   simp only [gi_z, gi_1, gi_2, gi_3, gi_4, Int.toNat_natCast, j0, j1, j2, j3, dlt hj', xaa (xa1 hj'), xaA (show j + 1 < 4611686018427387904 by omega)]
   rw [xxn hj'])
  (fun _ _ => by
   have e2 : L.length - 1 + 1 = L.length := by omega
   unfold xdo
   simp only [gi_z, gi_1, gi_2, gi_3, gi_4, e2, dnlt, List.take_length])
  (s := ()) trivial
 have k1 : xay (xdo L) (xeu L) := by rw [h0]; exact key.1
 have k2 : xgX L = (2, [.i (L.length : Int), .i ((hull L).getD 0 0), .i ((hull L).getD 1 0), .i ((hull L).getD 2 0), .i ((hull L).getD 3 0)]) := by unfold xgX; rw [h0]; exact key.2.1
 have hr0 : inR (0 : Int) L := by unfold inR; omega
 unfold xeV xhA xhz xhy xhx
 rw [k2]
 simp only [gi_z, gi_1, gi_2, gi_3, gi_4, and_self, and_true]
 exact ⟨hr0, hr0, k1⟩
theorem xDh (f : Int) (base fc rp wr tr : List (List Int)) (ht : tr.length ≤ 61) : xay (xcf f base fc rp wr tr) (xfG f base fc rp wr tr) ∧
  (xb6 f base fc rp wr tr).1.beq 1 = decide (∃ p ∈ tr, ¬ VP (p.getD 0 0) (p.getD 1 0)) := by
 have key := xa6 (step := xcf f base fc rp wr tr) tr.length (fun q => !decide (VP ((tr.getD q []).getD 0 0) ((tr.getD q []).getD 1 0))) (fun q => [.b false, .i 0, .i q]) (fun q => []) 0 2 [.b false, .i 0, .i tr.length]
  (fun q hq => by
   unfold xcf
   rw [Si.xx0]
   simp only [gi_2, gi_1, gi_z, gb_z, dlt hq, xaa (xa1 hq), Int.toNat_natCast, xaA (show q < 4611686018427387904 by omega)]
   rfl)
  (by
   unfold xcf
   simp only [gi_2, gi_1, gi_z, gb_z, dnlt])
 refine ⟨key.1, ?_⟩
 rcases key.2 with ⟨q, q1, q2, q3, q4⟩ | ⟨q3, q4⟩
 ·have e : xb6 f base fc rp wr tr = (1, []) := q4
  rw [e, decide_eq_true (show ∃ p ∈ tr, ¬ VP (p.getD 0 0) (p.getD 1 0) from ⟨_, xaW q1, by simpa using q2⟩)]
  rfl
 ·have e : xb6 f base fc rp wr tr = (3, [.b false, .i 0, .i tr.length]) := q4
  rw [e, decide_eq_false (show ¬ ∃ p ∈ tr, ¬ VP (p.getD 0 0) (p.getD 1 0) from fun ⟨p, hp, h⟩ => by
   obtain ⟨q, hq, rfl⟩ := xe1 hp
   exact h (by simpa using q3 q hq))]
  rfl
theorem xDg {f : Int} {base fc rp wr tr : List (List Int)} (hr : ∀ r ∈ rp, RVr r) (hl : rp.length ≤ 60) (ht : tr.length = rp.length + 1) (hw : wr.length ≤ 9223372036854775807) :
  xay (xce f base fc rp wr tr) (xd8 f base fc rp wr tr) ∧
  (((xbN f base fc rp wr tr).1 = 1 ∧ ck fc wr tr rp 0 f (xeb (pX tr 0) (pY tr 0) base) = (gi (xbN f base fc rp wr tr).2 0, false)) ∨
   ((xbN f base fc rp wr tr).1 = 3 ∧ ck fc wr tr rp 0 f (xeb (pX tr 0) (pY tr 0) base) = (0, gb (xbN f base fc rp wr tr).2 3))) := by
 refine xdL (step := xce f base fc rp wr tr) rp.length (fun j xs => ∃ b0 e0 t at_, xs = [.b b0, .i e0, .i at_, .b t, .i (j : Int)] ∧ ck fc wr tr rp 0 f (xeb (pX tr 0) (pY tr 0) base) = ck fc wr tr (rp.drop j) j at_ t)
  (fun res => (res.1 = 1 ∧ ck fc wr tr rp 0 f (xeb (pX tr 0) (pY tr 0) base) = (gi res.2 0, false)) ∨ (res.1 = 3 ∧ ck fc wr tr rp 0 f (xeb (pX tr 0) (pY tr 0) base) = (0, gb res.2 3)))
  (fun j xs hj ⟨b0, e0, t, at_, e, hk⟩ => ?_) (fun xs ⟨b0, e0, t, at_, e, hk⟩ => ?_) (xs := xd8 f base fc rp wr tr) ⟨_, _, _, f, rfl, rfl⟩
 ·subst e
  rw [xhE hj, xBN] at hk
  have hR := hr _ (xaW hj)
  have w1 := xaA (show j < 4611686018427387904 by omega)
  obtain ⟨a1, a2, a3⟩ := xzS at_ ((rp.getD j []).getD 2 0) (pX tr j) (pY tr j) (pX tr (j + 1)) (pY tr (j + 1)) fc
  obtain ⟨l1, l2⟩ := xAO (j : Int) wr hw
  have eg : gi [U.b b0, U.i e0, U.i at_, U.b t, U.i (j : Int)] 4 = (j : Int) := by rw [gi_4, gi_z]
  have eg2 : gi [U.b b0, U.i e0, U.i at_, U.b t, U.i (j : Int)] 2 = at_ := by rw [gi_2, gi_z]
  have e_0 : xiA f base fc rp wr tr [.b b0, .i e0, .i at_, .b t, .i (j : Int)] = allE at_ ((rp.getD j []).getD 2 0) (pX tr j) (pY tr j) (pX tr (j + 1)) (pY tr (j + 1)) fc := by
   unfold xiA; rw [eg, eg2, w1, Int.toNat_natCast, Int.toNat_natCast]; exact a2
  unfold xce
  rw [e_0]
  simp only [eg, eg2]
  rw [xaa (fun _ _ => l1)]
  rw [Si.xx5]
  simp only [gb_z, gb_3, gb_1, gi_1, gi_z, dlt hj, xaa (xa1 hj), w1, Int.toNat_natCast, xaa (xa1 (show j < tr.length by omega)), xaa (xa1 (show j + 1 < tr.length by omega)), l2]
  have a1' : xeo at_ ((rp.getD j []).getD 2 0) ((tr.getD j []).getD 0 0) ((tr.getD j []).getD 1 0) ((tr.getD (j + 1) []).getD 0 0) ((tr.getD (j + 1) []).getD 1 0) fc := a1
  have a3' : xe0 at_ ((rp.getD j []).getD 2 0) ((tr.getD j []).getD 0 0) ((tr.getD j []).getD 1 0) ((tr.getD (j + 1) []).getD 0 0) ((tr.getD (j + 1) []).getD 1 0) fc = _ := a3
  rw [xaa a1', a3']
  by_cases h1 : allE at_ ((rp.getD j []).getD 2 0) (pX tr j) (pY tr j) (pX tr (j + 1)) (pY tr (j + 1)) fc = 0
  ·rw [if_neg (fun k => k h1)] at hk
   have b1 : (allE at_ ((rp.getD j []).getD 2 0) (pX tr j) (pY tr j) (pX tr (j + 1)) (pY tr (j + 1)) fc != 0) = false := by rw [bne_eq_false_iff_eq]; exact h1
   rw [b1, cond_false]
   refine .inl ⟨_, rfl, _, _, _, _, rfl, ?_⟩
   rw [hk]
   congr 1
   have hP : Si.Pt (pX tr (j + 1)) (pY tr (j + 1)) := by
    unfold allE at h1
    split at h1
    ·cases h1
    ·rename_i k
     have : VP (pX tr (j + 1)) (pY tr (j + 1)) := Decidable.byContradiction fun h => k (.inr h)
     exact this
   rw [decide_eq_true (show RVr (rp.getD j []) ∧ Si.Pt (pX tr (j + 1)) (pY tr (j + 1)) from ⟨hR, hP⟩)]
   have : decide (Si.RV ((rp.getD j []).getD 0 0) ((rp.getD j []).getD 1 0) ((rp.getD j []).getD 2 0) ((rp.getD j []).getD 3 0) ((rp.getD j []).getD 4 0) ((rp.getD j []).getD 5 0) ((rp.getD j []).getD 6 0) ((rp.getD j []).getD 7 0) ((rp.getD j []).getD 8 0) ((rp.getD j []).getD 9 0) ((rp.getD j []).getD 10 0) ((rp.getD j []).getD 11 0) ((rp.getD j []).getD 12 0) ∧ Si.Pt ((tr.getD (j + 1) []).getD 0 0) ((tr.getD (j + 1) []).getD 1 0) ∧ Si.Sees ((rp.getD j []).getD 4 0) ((rp.getD j []).getD 5 0) ((rp.getD j []).getD 6 0) ((rp.getD j []).getD 7 0) ((rp.getD j []).getD 8 0) ((rp.getD j []).getD 9 0) ((rp.getD j []).getD 10 0) ((rp.getD j []).getD 11 0) ((rp.getD j []).getD 12 0) ((tr.getD (j + 1) []).getD 0 0) ((tr.getD (j + 1) []).getD 0 0) ((tr.getD (j + 1) []).getD 1 0) ((tr.getD (j + 1) []).getD 1 0)) = decide (xzJ (rp.getD j []) (pX tr (j + 1)) (pY tr (j + 1))) := by
    rw [decide_eq_decide]
    exact ⟨fun k => k.2.2, fun k => ⟨hR, hP, k⟩⟩
   rw [this, Bool.and_true]
  ·rw [if_pos h1] at hk
   have b1 : (allE at_ ((rp.getD j []).getD 2 0) (pX tr j) (pY tr j) (pX tr (j + 1)) (pY tr (j + 1)) fc != 0) = true := by rw [bne_iff_ne]; exact h1
   rw [b1, cond_true]
   exact .inr ⟨0, _, rfl, .inl ⟨rfl, by rw [hk, gi_z]⟩⟩
 ·subst e
  refine ⟨2, [.b b0, .i e0, .i at_, .b t, .i rp.length], ?_, .inr ⟨rfl, ?_⟩⟩
  ·unfold xce
   simp only [gb_z, gb_3, gb_1, gi_4, gi_3, gi_2, gi_1, gi_z, dnlt]
  ·rw [hk, List.drop_length, gb_3, gb_z]
   rfl
theorem xAR (f : Int) (base fc rp wr tr : List (List Int)) (h13 : Si.El13 rp) (hw : wr.length ≤ 9223372036854775807) :
  xfg f base fc rp wr tr ∧ xdJ f base fc rp wr tr = (chX f base fc rp wr tr).1 ∧ xdK f base fc rp wr tr = (chX f base fc rp wr tr).2 := by
 obtain ⟨v1, v2⟩ := xsq f base fc rp h13
 obtain ⟨w1, w2⟩ := xCL (rp.length : Int) wr hw
 unfold xfg xdJ xdK xnV chX
 rw [v2, w2]
 have main : ∀ e : Int, GS f base fc rp → (e = 5 ∨ e = 0) →
   (((e == (1 : Int)) = false → xd5 (rp.length : Int) wr) ∧
   ((e == (1 : Int) || !wB rp.length (-1) wr || (tr.length : Int) != IntKind.i64.wrap ((rp.length : Int) + 1)) = false → xay (xcf f base fc rp wr tr) (xfG f base fc rp wr tr) ∧
    ((xb6 f base fc rp wr tr).1.beq 1 = false → (e != (0 : Int)) = false → inR 0 tr ∧ inR 0 tr ∧ xg0 ((tr.getD (Int.toNat 0) []).getD 0 0) ((tr.getD (Int.toNat 0) []).getD 1 0) base ∧
     xay (xce f base fc rp wr tr) (xd8 f base fc rp wr tr)))) ∧
   (bif e == (1 : Int) || !wB rp.length (-1) wr || (tr.length : Int) != IntKind.i64.wrap ((rp.length : Int) + 1) then (1 : Int)
    else bif (xb6 f base fc rp wr tr).1.beq 1 then (1 : Int) else bif e != (0 : Int) then e else bif (xbN f base fc rp wr tr).1.beq 1 then gi (xbN f base fc rp wr tr).2 0 else 0) =
    (if e = 1 ∨ wB rp.length (-1) wr = false ∨ tr.length ≠ rp.length + 1 ∨ ∃ p ∈ tr, ¬ VP (p.getD 0 0) (p.getD 1 0) then (1, false) else if e ≠ 0 then (e, false) else ck fc wr tr rp 0 f (decide (inB (pX tr 0) (pY tr 0) base))).1 ∧
   (bif e == (1 : Int) || !wB rp.length (-1) wr || (tr.length : Int) != IntKind.i64.wrap ((rp.length : Int) + 1) then false
    else bif (xb6 f base fc rp wr tr).1.beq 1 then false else bif e != (0 : Int) then false else bif (xbN f base fc rp wr tr).1.beq 1 then false else gb (xbN f base fc rp wr tr).2 3) =
    (if e = 1 ∨ wB rp.length (-1) wr = false ∨ tr.length ≠ rp.length + 1 ∨ ∃ p ∈ tr, ¬ VP (p.getD 0 0) (p.getD 1 0) then (1, false) else if e ≠ 0 then (e, false) else ck fc wr tr rp 0 f (decide (inB (pX tr 0) (pY tr 0) base))).2 := fun e g he => by
  have hl := g.ln
  have wl : IntKind.i64.wrap ((rp.length : Int) + 1) = ((rp.length + 1 : Nat) : Int) := xaA (by omega)
  have e1 : (e == (1 : Int)) = false := by rcases he with rfl | rfl <;> rfl
  have e1' : ¬ e = 1 := by rcases he with rfl | rfl <;> decide
  rw [wl, e1, Bool.false_or]
  cases hW : wB rp.length (-1) wr with
  | false =>
   rw [if_pos (.inr (.inl rfl))]
   exact ⟨⟨fun _ => w1, fun h => (by cases h)⟩, rfl, rfl⟩
  | true =>
   rw [Bool.not_true, Bool.false_or]
   by_cases ht : tr.length = rp.length + 1
   ·have b1 : ((tr.length : Int) != ((rp.length + 1 : Nat) : Int)) = false := by rw [bne_eq_false_iff_eq, ht]
    obtain ⟨l1, l2⟩ := xDh f base fc rp wr tr (by omega)
    rw [b1, cond_false, cond_false, l2]
    by_cases hp : ∃ p ∈ tr, ¬ VP (p.getD 0 0) (p.getD 1 0)
    ·rw [if_pos (.inr (.inr (.inr hp))), decide_eq_true hp]
     exact ⟨⟨fun _ => w1, fun _ => ⟨l1, fun h => (by cases h)⟩⟩, rfl, rfl⟩
    ·rw [if_neg (fun k => by
     rcases k with k | k | k | k
     ·exact e1' k
     ·cases k
     ·exact k ht
     ·exact hp k), decide_eq_false hp, cond_false, cond_false]
     rcases he with rfl | rfl
     ·exact ⟨⟨fun _ => w1, fun _ => ⟨l1, fun _ h => (by cases h)⟩⟩, rfl, rfl⟩
     ·have hr0 : inR (0 : Int) tr := by unfold inR; omega
      obtain ⟨c1, c2⟩ := xDg (base := base) (f := f) g.rv hl ht hw
      obtain ⟨i1, i2⟩ := xDd (pX tr 0) (pY tr 0) base (by have := g.vl.2.1; omega)
      have i4 : inE (pX tr 0) (pY tr 0) base = 0 := by
       unfold inE
       rw [if_neg]
       rintro (k | k)
       ·exact k g.vl
       ·exact hp ⟨_, xaW (show 0 < tr.length by omega), k⟩
      have i5 : decide (inB (pX tr 0) (pY tr 0) base) = xeb (pX tr 0) (pY tr 0) base := by
       rw [i2, decide_eq_decide]
       exact ⟨fun k => k.2, fun k => ⟨i4, k⟩⟩
      rw [i5]
      refine ⟨⟨fun _ => w1, fun _ => ⟨l1, fun _ _ => ⟨hr0, hr0, i1, c1⟩⟩⟩, ?_⟩
      rcases c2 with ⟨k1, k2⟩ | ⟨k1, k2⟩
      ·rw [k1, if_neg (by simp), k2]; exact ⟨rfl, rfl⟩
      ·rw [k1, if_neg (by simp), k2]; exact ⟨rfl, rfl⟩
   ·have b1 : ((tr.length : Int) != ((rp.length + 1 : Nat) : Int)) = true := by rw [bne_iff_ne]; omega
    rw [b1, if_pos (.inr (.inr (.inl ht)))]
    exact ⟨⟨fun _ => w1, fun h => (by cases h)⟩, rfl, rfl⟩
 rcases xjh f base fc rp with ⟨e, _⟩ | ⟨e, g, _⟩ | ⟨e, g, _⟩ <;> rw [e]
 ·rw [if_pos (.inl rfl)]
  exact ⟨⟨v1, fun h => (by cases h), fun h => (by cases h)⟩, rfl, rfl⟩
 ·obtain ⟨m1, m2, m3⟩ := main 5 g (.inl rfl)
  exact ⟨⟨v1, m1⟩, m2, m3⟩
 ·obtain ⟨m1, m2, m3⟩ := main 0 g (.inr rfl)
  exact ⟨⟨v1, m1⟩, m2, m3⟩
end Go.Proofs.YtnijhjpaplihbaaGreat
set_option linter.unusedVariables false
set_option maxRecDepth 100000
set_option linter.unusedSimpArgs false
set_option linter.unusedSectionVars false
namespace Go.Proofs.YtnijhjpaplihbaaGreat
open Go Go.Sy
def nxN (i : Nat) : List Nat → Nat
 | [] => i
 | a :: r => (a :: r).getLast (by simp) + 1
def extN (b i : Nat) (c : List Nat) : List (List Nat) := (List.range' (nxN i c) (b - nxN i c)).map fun x => c ++ [x]
theorem xDm (i a : Nat) (d : List Nat) : nxN i (a :: d) = nxN (a + 1) d := by
 cases d with
 | nil => rfl
 | cons x d => simp [nxN]
theorem xwf (b i a : Nat) (d : List Nat) : extN b i (a :: d) = (extN b (a + 1) d).map (a :: ·) := by
 unfold extN
 rw [xDm, List.map_map]
 rfl
theorem xEn {b i j : Nat} {c : List Nat} (h : c ≠ []) : extN b i c = extN b j c := by
 cases c with
 | nil => exact absurd rfl h
 | cons a d => rw [xwf, xwf]
theorem xoi {α β : Type} {l : List α} {f g : α → List β} (h : ∀ x ∈ l, f x = g x) : l.flatMap f = l.flatMap g := by
 induction l with
 | nil => rfl
 | cons a r ih => simp only [List.flatMap_cons, h a (by simp), ih fun x hx => h x (by simp [hx])]
theorem xr8 : ∀ (k n i : Nat), cmbs k (n + 1) i = (cmbs k n i).flatMap (extN (i + k) i)
 | 0, 0, i => by simp [cmbs, extN, nxN]
 | 0, n + 1, i => by simp [cmbs]
 | k + 1, 0, i => by
  have ih := xr8 k 0 (i + 1)
  show (cmbs k 0 (i + 1)).map (i :: ·) ++ cmbs k (0 + 1) (i + 1) = _
  rw [ih, xls, xls]
  simp only [List.map_cons, List.map_nil, List.flatMap_cons, List.flatMap_nil, List.append_nil]
  unfold extN nxN
  rw [show i + (k + 1) - i = k + 1 by omega, List.range'_succ, show i + 1 + k - (i + 1) = k by omega]
  rfl
 | k + 1, n + 1, i => by
  have ih1 := xr8 k n (i + 1)
  have ih2 := xr8 k (n + 1) (i + 1)
  show (cmbs k (n + 1) (i + 1)).map (i :: ·) ++ cmbs k (n + 1 + 1) (i + 1) = ((cmbs k n (i + 1)).map (i :: ·) ++ cmbs k (n + 1) (i + 1)).flatMap _
  rw [List.flatMap_append, ih2, show i + 1 + k = i + (k + 1) by omega]
  congr 1
  ·rw [ih1, List.flatMap_map, List.map_flatMap, show i + 1 + k = i + (k + 1) by omega]
   exact xoi fun c _ => (xwf (i + (k + 1)) i i c).symm
  ·refine xoi fun c hc => (xEn ?_).symm
   intro e
   have := ((xkw _ _ _ _).1 hc).1
   rw [e] at this
   cases this
def toW (c : List Nat) : List (List Int) := xgK (c.map fun (x : Nat) => (x : Int))
noncomputable def encW (w : List (List Int)) : List Int := [encL w]
theorem xBW (c : List Nat) (x : Nat) : toW (c ++ [x]) = toW c ++ [[(x : Int)]] := by simp [toW, xgK]
theorem xxT (c : List Nat) : (toW c).length = c.length := by simp [toW, xgK]
theorem xC2 (c : List Nat) {q : Nat} (h : q < c.length) : (toW c).getD q [] = [((c.getD q 0 : Nat) : Int)] := by
 unfold toW xgK
 rw [List.getD_eq_getElem?_getD, List.getElem?_map, List.getElem?_map, List.getD_eq_getElem?_getD, List.getElem?_eq_getElem h]
 rfl
theorem xBD (m s : Nat) : xaB m (s : Int) = (cmbs m s 0).map toW := by
 unfold xaB
 rw [Int.toNat_natCast]
 rfl
theorem xnh (m s : Nat) : alls m (s + 1) = alls m s ++ (cmbs m s 0).map toW := by
 show alls m s ++ xaB m s = _
 rw [xBD]
theorem xpE {b n : Nat} (hb : b ≤ 100) (hn : n ≤ 1000000) : xcI b n := by
 unfold xcI
 have := Nat.mul_le_mul hn hb
 simp only [maxLen]
 omega
theorem xsg (a n j : Nat) (h : j ≤ n) : (List.range' a n).take j = List.range' a j := by
 have e : List.range' a n = List.range' a j ++ List.range' (a + j) (n - j) := by
  rw [List.range'_append_1, show j + (n - j) = n by omega]
 rw [e]
 exact List.take_left' (by simp)
section
variable {m most : Nat} (hm : m ≤ 60)
noncomputable def outQ (m s q : Nat) : List (List Int) := (alls m (s + 1) ++ (((cmbs m s 0).take q).flatMap (extN m 0)).map toW).map encW
theorem xAX (m s : Nat) : outQ m s 0 = (alls m (s + 1)).map encW := by simp [outQ]
theorem xw0 (m s : Nat) : outQ m s (cmbs m s 0).length = (alls m (s + 2)).map encW := by
 unfold outQ
 rw [List.take_length, xnh m (s + 1)]
 have := xr8 m s 0
 rw [Nat.zero_add] at this
 rw [this]
theorem xAY {s q : Nat} (h : q < (cmbs m s 0).length) : outQ m s (q + 1) = outQ m s q ++ ((extN m 0 ((cmbs m s 0).getD q [])).map toW).map encW := by
 unfold outQ
 have : (cmbs m s 0).take (q + 1) = (cmbs m s 0).take q ++ [(cmbs m s 0).getD q []] := by
  rw [List.take_add_one, List.getElem?_eq_getElem h, List.getD_eq_getElem?_getD, List.getElem?_eq_getElem h]
  rfl
 rw [this]
 simp only [List.flatMap_append, List.map_append, List.flatMap_cons, List.flatMap_nil, List.append_nil, List.append_assoc]
theorem xy6 (m s : Nat) : ∀ (q d : Nat), (outQ m s q).length ≤ (outQ m s (q + d)).length
 | q, 0 => Nat.le_refl _
 | q, d + 1 => by
  refine Nat.le_trans (xy6 m s q d) ?_
  unfold outQ
  simp only [List.length_map, List.length_append]
  have : (((cmbs m s 0).take (q + d)).flatMap (extN m 0)).length ≤ (((cmbs m s 0).take (q + (d + 1))).flatMap (extN m 0)).length := by
   rw [show q + (d + 1) = (q + d) + 1 by omega, List.take_add_one, List.flatMap_append, List.length_append]
   omega
  omega
theorem xDi {s q : Nat} (hq : q ≤ (cmbs m s 0).length) : (outQ m s q).length ≤ (s + 2) * 2 ^ m := by
 have h := xy6 m s q ((cmbs m s 0).length - q)
 rw [show q + ((cmbs m s 0).length - q) = (cmbs m s 0).length by omega, xw0, List.length_map] at h
 exact Nat.le_trans h (xjH m (s + 2))
theorem xCi {s q q' : Nat} (h : q < (cmbs m s 0).length) (X : List (List Int)) : (outQ m s q' ++ X).getD ((alls m s).length + q) [] = encW (toW ((cmbs m s 0).getD q [])) := by
 unfold outQ
 rw [xnh, List.map_append, List.map_append, List.append_assoc, List.append_assoc, List.getD_eq_getElem?_getD, List.getElem?_append_right (by simp)]
 rw [List.length_map, Nat.add_sub_cancel_left, List.getElem?_append_left (by simpa using h)]
 rw [List.getElem?_map, List.getElem?_map, List.getElem?_eq_getElem h, List.getD_eq_getElem?_getD, List.getElem?_eq_getElem h]
 rfl
theorem xCh {s q q' : Nat} (h : q < (cmbs m s 0).length) (X : List (List Int)) : (alls m s).length + q < (outQ m s q' ++ X).length := by
 unfold outQ
 rw [xnh]
 simp only [List.length_append, List.length_map]
 omega
theorem xCw (m : Nat) (c : List Nat) (j : Nat) (hj : j < m - nxN 0 c) : ((extN m 0 c).take (j + 1)) = (extN m 0 c).take j ++ [c ++ [nxN 0 c + j]] := by
 unfold extN
 rw [← List.map_take, ← List.map_take, xsg _ _ _ (by omega), xsg _ _ _ (by omega), List.range'_concat]
 simp
theorem xDE (m : Nat) (c : List Nat) : (extN m 0 c).take (m - nxN 0 c) = extN m 0 c := by
 rw [List.take_of_length_le]
 simp [extN]
theorem xC1 {i : Int} (h : 0 ≤ i ∧ i < 4611686018427387904) : IntKind.i64.wrap i = i := xav (by omega)
theorem xxr {m : Nat} (hm : m ≤ 12) {O : List (List Int)} (hO : ∀ j, j ≤ m → O.length + j ≤ 900000) {c : List Nat} (hc : c.length ≤ 1000) (hnx : nxN 0 c ≤ m) {i : Nat}
  (hget : ∀ X : List (List Int), (O ++ X).getD i [] = encW (toW c) ∧ i < (O ++ X).length) {step : List U → Option (Nat × List U)}
  (hstep : ∀ (k : Int) (L : List (List Int)), step [.i k, .r L] = bif decide (k < (m : Int)) then xab (inR (i : Int) L) (xab (inR (i : Int) L) (xab (xcI 8 (0 + (decL ((L.getD i []).getD 0 (0 : Int))).length)) (xab (xcI 8 (([] ++ decL ((L.getD i []).getD 0 (0 : Int))).length + [[k]].length)) (xab (xcI 24 (L.length + [[encL ([] ++ decL ((L.getD i []).getD 0 (0 : Int)) ++ [[k]])]].length)) (some (0, [.i (IntKind.i64.wrap (k + (1 : Int))), .r (L ++ [[encL ([] ++ decL ((L.getD i []).getD 0 (0 : Int)) ++ [[k]])]])])))))) else some (2, [.i k, .r L])) :
  xay step [.i (nxN 0 c : Int), .r O] ∧ xaC step [.i (nxN 0 c : Int), .r O] = (2, [.i (m : Int), .r (O ++ ((extN m 0 c).map toW).map encW)]) := by
 have key := xgN (σ := Unit) (step := step) (m - nxN 0 c) (fun j _ => [.i ((nxN 0 c + j : Nat) : Int), .r (O ++ (((extN m 0 c).take j).map toW).map encW)]) (fun _ s => s) (fun _ _ => True) 1
  (fun _ => [.i (m : Int), .r (O ++ ((extN m 0 c).map toW).map encW)]) (fun _ _ _ _ => trivial)
  (fun j _ hj _ => by
   obtain ⟨g1, g2⟩ := hget ((((extN m 0 c).take j).map toW).map encW)
   have hd : decL ((encW (toW c)).getD 0 (0 : Int)) = toW c := xtv _
   have hlen : (((extN m 0 c).take j).map toW).length ≤ j := by rw [List.length_map, List.length_take]; omega
   have hOj := hO j (by omega)
   rw [hstep, g1, hd, dlt (show nxN 0 c + j < m by omega), xaa (xa1 g2), xaa (xa1 g2), xaa, xaa, xaa, xaA (show nxN 0 c + j < 4611686018427387904 by omega)]
   ·rw [xCw m c j hj, List.map_append, List.map_append, List.nil_append]
    have : [[encL (toW c ++ [[((nxN 0 c + j : Nat) : Int)]])]] = ([c ++ [nxN 0 c + j]].map toW).map encW := by
     simp only [List.map_cons, List.map_nil, xBW]
     rfl
    rw [this, List.append_assoc]
    rfl
   ·refine xpE (by decide) ?_
    simp only [List.length_append, List.length_map, List.length_cons, List.length_nil] at hlen ⊢
    omega
   ·refine xpE (by decide) ?_
    simp only [List.nil_append, List.length_cons, List.length_nil, xxT]
    omega
   ·refine xpE (by decide) ?_
    rw [xxT]
    omega)
  (fun _ _ => by
   rw [hstep, show nxN 0 c + (m - nxN 0 c) = m by omega, dnlt, xDE])
  (s := ()) trivial
 have e0 : ([.i ((nxN 0 c + 0 : Nat) : Int), .r (O ++ (((extN m 0 c).take 0).map toW).map encW)] : List U) = [.i (nxN 0 c : Int), .r O] := by simp
 have k1 := key.1
 have k2 := key.2.1
 rw [e0] at k1 k2
 exact ⟨k1, k2⟩
theorem xDk {m s : Nat} {c : List Nat} (h : c ∈ cmbs m s 0) : nxN 0 c ≤ m := by
 cases c with
 | nil => exact Nat.zero_le _
 | cons a d =>
  have := ((xkw _ _ _ _).1 h).2.2 ((a :: d).getLast (by simp)) (List.getLast_mem _)
  simp only [nxN]
  omega
theorem xDl {c : List Nat} {s : Nat} (h : c.length = s + 1) : (c.getD s 0) + 1 = nxN 0 c := by
 cases c with
 | nil => cases h
 | cons a d =>
  have hs : d.length = s := by simpa using h
  show (a :: d).getD s 0 + 1 = (a :: d).getLast (by simp) + 1
  rw [List.getLast_eq_getElem, List.getD_eq_getElem?_getD, List.getElem?_eq_getElem (by simp; omega)]
  simp [hs]
theorem xB3 {m : Nat} (most : Int) (hm : m ≤ 12) {s q : Nat} (hs : s ≤ 3) (hq : q < (cmbs m s 0).length) {F : Nat} (hF : F = (alls m s).length) (O : List (List Int)) (hO : O.length = F + (cmbs m s 0).length) :
  xcE (m : Int) most [.i (F : Int), .i ((s + 1 : Nat) : Int), .r O] [.i ((F + q : Nat) : Int), .r (outQ m s q)] = some (0, [.i ((F + (q + 1) : Nat) : Int), .r (outQ m s (q + 1))]) := by
 have hc : (cmbs m s 0).getD q [] ∈ cmbs m s 0 := by
  rw [List.getD_eq_getElem?_getD, List.getElem?_eq_getElem hq]; exact List.getElem_mem hq
 generalize hcd : (cmbs m s 0).getD q [] = c at hc
 have hcl : c.length = s := ((xkw _ _ _ _).1 hc).1
 have hp : 2 ^ m ≤ 2 ^ 12 := Nat.pow_le_pow_right (by omega) hm
 have hle : (outQ m s q).length ≤ 5 * 2 ^ 12 := Nat.le_trans (xDi (by omega)) (Nat.mul_le_mul (by omega) hp)
 have hcount : (cmbs m s 0).length ≤ 2 ^ 12 := Nat.le_trans (xop _ _ _) hp
 have hall : F ≤ 4 * 2 ^ 12 := by rw [hF]; exact Nat.le_trans (xjH m s) (Nat.mul_le_mul (by omega) hp)
 have hget : ∀ X : List (List Int), (outQ m s q ++ X).getD (F + q) [] = encW (toW c) ∧ F + q < (outQ m s q ++ X).length := fun X => by
  rw [hF, ← hcd]; exact ⟨xCi hq X, xCh hq X⟩
 have hg0 := hget []
 rw [List.append_nil] at hg0
 have hnext : outQ m s q ++ ((extN m 0 c).map toW).map encW = outQ m s (q + 1) := by rw [xAY hq, hcd]
 have hw : IntKind.i64.wrap (((F + q : Nat) : Int) + 1) = ((F + (q + 1) : Nat) : Int) := by rw [xaA (by omega)]; rfl
 have hO4 : gr [U.i (F : Int), U.i ((s + 1 : Nat) : Int), U.r O] 2 = O := by rw [gr_2, gr_z]
 have hd : decL ((encW (toW c)).getD 0 (0 : Int)) = toW c := xtv _
 unfold xcE
 simp only [hO4, gi_1, gi_z, gr_1, gr_z, Int.toNat_natCast, hg0.1, hd]
 rw [decide_eq_true (show ((F + q : Nat) : Int) < (O.length : Int) by omega), cond_true]
 have lh : ∀ j, j ≤ m → (outQ m s q).length + j ≤ 900000 := fun j hj => by omega
 by_cases h0 : 0 < s
 ·obtain ⟨t, rfl⟩ : ∃ t, s = t + 1 := ⟨s - 1, by omega⟩
  have ew : IntKind.i64.wrap (((t + 1 + 1 : Nat) : Int) - 2) = (t : Int) := by rw [xC1 (by omega)]; omega
  have hr : inR (IntKind.i64.wrap (((t + 1 + 1 : Nat) : Int) - 2)) (toW c) := by rw [ew]; exact xa1 (by rw [xxT]; omega)
  have e0 : xgp (m : Int) most [U.i (F : Int), U.i ((t + 1 + 1 : Nat) : Int), U.r O] [U.i ((F + q : Nat) : Int), U.r (outQ m (t + 1) q)] = [.i (nxN 0 c : Int), .r (outQ m (t + 1) q)] := by
   unfold xgp xpb
   simp only [gi_1, gi_z, gr_1, gr_z, Int.toNat_natCast, hg0.1, hd, ew]
   rw [xC2 c (show t < c.length by omega)]
   have := xDl hcl
   have h1 := xDk hc
   show [U.i (IntKind.i64.wrap (((c.getD t 0 : Nat) : Int) + 1)), _] = _
   rw [xaA (by omega), this]
  obtain ⟨k1, k2⟩ := xxr hm (O := outQ m (t + 1) q) lh (by omega) (xDk hc) hget (step := xgo (m : Int) most [U.i (F : Int), U.i ((t + 1 + 1 : Nat) : Int), U.r O] [U.i ((F + q : Nat) : Int), U.r (outQ m (t + 1) q)])
   (fun k L => by
    unfold xgo xlC
    simp only [gi_1, gi_z, gr_1, gr_z, Int.toNat_natCast])
  rw [decide_eq_true (show ((t + 1 + 1 : Nat) : Int) > 1 by omega), cond_true, xaa (xa1 hg0.2), xaa (xa1 hg0.2), xaa hr, xaa hr, xaa (by rw [e0]; exact k1)]
  have e2 : xlE (m : Int) most [U.i (F : Int), U.i ((t + 1 + 1 : Nat) : Int), U.r O] [U.i ((F + q : Nat) : Int), U.r (outQ m (t + 1) q)] = (2, [.i (m : Int), .r (outQ m (t + 1) q ++ ((extN m 0 c).map toW).map encW)]) := by
   unfold xlE; rw [e0]; exact k2
  rw [e2, hw, gr_1, gr_z, hnext]
 ·obtain rfl : s = 0 := by omega
  have hcn : c = [] := List.eq_nil_of_length_eq_zero hcl
  have e0 : xgn (m : Int) most [U.i (F : Int), U.i ((0 + 1 : Nat) : Int), U.r O] [U.i ((F + q : Nat) : Int), U.r (outQ m 0 q)] = [.i (nxN 0 c : Int), .r (outQ m 0 q)] := by
   unfold xgn
   rw [gr_1, gr_z, hcn]
   rfl
  obtain ⟨k1, k2⟩ := xxr hm (O := outQ m 0 q) lh (by omega) (xDk hc) hget (step := xgm (m : Int) most [U.i (F : Int), U.i ((0 + 1 : Nat) : Int), U.r O] [U.i ((F + q : Nat) : Int), U.r (outQ m 0 q)])
   (fun k L => by
    unfold xgm xlB
    simp only [gi_1, gi_z, gr_1, gr_z, Int.toNat_natCast])
  rw [decide_eq_false (show ¬ ((0 + 1 : Nat) : Int) > 1 by omega), cond_false, xaa (by rw [e0]; exact k1)]
  have e2 : xlD (m : Int) most [U.i (F : Int), U.i ((0 + 1 : Nat) : Int), U.r O] [U.i ((F + q : Nat) : Int), U.r (outQ m 0 q)] = (2, [.i (m : Int), .r (outQ m 0 q ++ ((extN m 0 c).map toW).map encW)]) := by
   unfold xlD; rw [e0]; exact k2
  rw [e2, hw, gr_1, gr_z, hnext]
theorem xC7 {m : Nat} (most : Int) (hm : m ≤ 12) {s : Nat} (hs : s ≤ 3) :
  xay (xcE (m : Int) most [.i ((alls m s).length : Int), .i ((s + 1 : Nat) : Int), .r ((alls m (s + 1)).map encW)]) (xer (m : Int) most [.i ((alls m s).length : Int), .i ((s + 1 : Nat) : Int), .r ((alls m (s + 1)).map encW)]) ∧
  gr (xlF (m : Int) most [.i ((alls m s).length : Int), .i ((s + 1 : Nat) : Int), .r ((alls m (s + 1)).map encW)]).2 1 = (alls m (s + 2)).map encW := by
 have hO : ((alls m (s + 1)).map encW).length = (alls m s).length + (cmbs m s 0).length := by rw [xnh, List.length_map, List.length_append, List.length_map]
 have key := xgN (σ := Unit) (step := xcE (m : Int) most [.i ((alls m s).length : Int), .i ((s + 1 : Nat) : Int), .r ((alls m (s + 1)).map encW)]) (cmbs m s 0).length
  (fun q _ => [.i (((alls m s).length + q : Nat) : Int), .r (outQ m s q)]) (fun _ s => s) (fun _ _ => True) 2 (fun _ => [.i (((alls m s).length + (cmbs m s 0).length : Nat) : Int), .r ((alls m (s + 2)).map encW)]) (fun _ _ _ _ => trivial)
  (fun q _ hq _ => xB3 most hm hs hq rfl _ hO)
  (fun _ _ => by
   unfold xcE
   simp only [gr_2, gr_z, gi_z]
   rw [decide_eq_false (by omega), cond_false, gr_1, gr_z, xw0])
  (s := ()) trivial
 have e0 : xer (m : Int) most [.i ((alls m s).length : Int), .i ((s + 1 : Nat) : Int), .r ((alls m (s + 1)).map encW)] = [.i (((alls m s).length + 0 : Nat) : Int), .r (outQ m s 0)] := by
  unfold xer
  rw [xAX]
  rfl
 refine ⟨by rw [e0]; exact key.1, ?_⟩
 have e1 := key.2.1
 rw [← e0] at e1
 have e2 : xlF (m : Int) most [.i ((alls m s).length : Int), .i ((s + 1 : Nat) : Int), .r ((alls m (s + 1)).map encW)] = (3, [.i (((alls m s).length + (cmbs m s 0).length : Nat) : Int), .r ((alls m (s + 2)).map encW)]) := e1
 rw [e2]
 rfl
theorem xqk {m : Nat} {most : Int} (hm : m ≤ 12) (h0 : 0 ≤ most ∧ most ≤ 3) : xdP (m : Int) most ∧ xal (m : Int) most = (alls m (most.toNat + 1)).map encW := by
 have key := xgN (σ := Unit) (step := xes (m : Int) most) most.toNat
  (fun s _ => [.i ((alls m s).length : Int), .i ((s + 1 : Nat) : Int), .r ((alls m (s + 1)).map encW)]) (fun _ s => s) (fun _ _ => True) 1
  (fun _ => [.i ((alls m most.toNat).length : Int), .i ((most.toNat + 1 : Nat) : Int), .r ((alls m (most.toNat + 1)).map encW)]) (fun _ _ _ _ => trivial)
  (fun s _ hs _ => by
   obtain ⟨k1, k2⟩ := xC7 most hm (s := s) (by omega)
   unfold xes
   rw [xaa k1, k2]
   simp only [gi_1, gi_z, gr_2, gr_z]
   rw [decide_eq_true (show ((s + 1 : Nat) : Int) ≤ most by omega), cond_true, xaA (by omega), List.length_map])
  (fun _ _ => by
   unfold xes
   simp only [gi_1, gi_z, gr_2, gr_z]
   rw [decide_eq_false (show ¬ ((most.toNat + 1 : Nat) : Int) ≤ most by omega), cond_false])
  (s := ()) trivial
 have e0 : xgq (m : Int) most = [.i ((alls m 0).length : Int), .i ((0 + 1 : Nat) : Int), .r ((alls m (0 + 1)).map encW)] := by
  unfold xgq
  rw [xnh, xls]
  rfl
 unfold xdP xal
 refine ⟨by rw [e0]; exact key.1, ?_⟩
 have e1 := key.2.1
 rw [← e0] at e1
 have e2 : xpc (m : Int) most = (2, [.i ((alls m most.toNat).length : Int), .i ((most.toNat + 1 : Nat) : Int), .r ((alls m (most.toNat + 1)).map encW)]) := e1
 rw [e2]
 rfl
end
end Go.Proofs.YtnijhjpaplihbaaGreat
set_option linter.unusedVariables false
set_option maxRecDepth 100000
set_option linter.unusedSimpArgs false
set_option linter.unusedSectionVars false
namespace Go.Proofs.YtnijhjpaplihbaaGreat
open Go Go.Sy
theorem xwh {L : List (List (List Int))} {q : Nat} (h : q < L.length) : decL (((L.map encW).getD q []).getD 0 (0 : Int)) = L.getD q [] := by
 have : (L.map encW).getD q [] = encW (L.getD q []) := by
  rw [List.getD_eq_getElem?_getD, List.getElem?_map, List.getD_eq_getElem?_getD, List.getElem?_eq_getElem h]
  rfl
 rw [this]
 exact xtv _
theorem xvd {m : Nat} {n : Nat} {w : List (List Int)} (h : w ∈ alls m n) (hn : n ≤ 1000) : w.length ≤ 9223372036854775807 := by
 have := (xp6 h).1
 omega
theorem xEi : ∀ L : List (List Int), [(hull L).getD 0 0, (hull L).getD 1 0, (hull L).getD 2 0, (hull L).getD 3 0] = hull L
 | [] => rfl
 | b :: L => by
  show [(L.foldl hul (q4 b)).getD 0 0, (L.foldl hul (q4 b)).getD 1 0, (L.foldl hul (q4 b)).getD 2 0, (L.foldl hul (q4 b)).getD 3 0] = L.foldl hul (q4 b)
  have : ∀ (L : List (List Int)) (x : List Int), (∃ y, x = q4 y) → ∃ y, L.foldl hul x = q4 y := by
   intro L
   induction L with
   | nil => intro x h; exact h
   | cons a L ih =>
    intro x _
    exact ih (hul x a) ⟨hul x a, rfl⟩
  obtain ⟨y, hy⟩ := this L (q4 b) ⟨b, rfl⟩
  rw [hy]
  rfl
section
variable {f most : Int} {base fc rp : List (List Int)} (g : GS f base fc rp) (hm : 0 ≤ most ∧ most ≤ 3) (hl : rp.length ≤ 12)
include g hm hl
theorem xp7 {n : Nat} (hn : n ≤ 4) : (alls rp.length n).length ≤ 20000 := by
 have h2 : 2 ^ rp.length ≤ 2 ^ 12 := Nat.pow_le_pow_right (by decide) hl
 have := Nat.mul_le_mul hn h2
 exact Nat.le_trans (xjH _ _) (by omega)
theorem xx3 {n q : Nat} (hn : n ≤ 4) (hq : q < (alls rp.length n).length) :
  xco f base fc rp ((alls rp.length n).getD q []) ∧ xbB f base fc rp ((alls rp.length n).getD q []) = (lw f base fc rp ((alls rp.length n).getD q [])).1 ∧ xcg f base fc rp ((alls rp.length n).getD q []) = (lw f base fc rp ((alls rp.length n).getD q [])).2 :=
 xyZ g _ (xvd (xCt hq) (by omega))
theorem xD6 : xay (xch f most base fc rp) (xev f most base fc rp) ∧
  (((xba f most base fc rp).1 = 1 ∧ ∃ w, (alls rp.length (most.toNat + 1)).find? (fun w => (lw f base fc rp w).1 != 18) = some w ∧ (lw f base fc rp w).1 = 0 ∧ gr (xba f most base fc rp).2 0 = w ∧ gr (xba f most base fc rp).2 1 = (lw f base fc rp w).2) ∨
   ((xba f most base fc rp).1 = 2 ∧ ∃ w, (alls rp.length (most.toNat + 1)).find? (fun w => (lw f base fc rp w).1 != 18) = some w ∧ (lw f base fc rp w).1 ≠ 0 ∧ gi (xba f most base fc rp).2 0 = (lw f base fc rp w).1) ∨
   ((xba f most base fc rp).1 = 4 ∧ (alls rp.length (most.toNat + 1)).find? (fun w => (lw f base fc rp w).1 != 18) = none)) := by
 have hS := (xqk hl hm).2
 have hlen := xp7 g hm hl (n := most.toNat + 1) (by omega)
 refine xdL (step := xch f most base fc rp) (alls rp.length (most.toNat + 1)).length
  (fun j xs => xs = [.i 0, .i (j : Int)] ∧ ∀ q, q < j → (lw f base fc rp ((alls rp.length (most.toNat + 1)).getD q [])).1 = 18)
  (fun res => (res.1 = 1 ∧ ∃ w, (alls rp.length (most.toNat + 1)).find? (fun w => (lw f base fc rp w).1 != 18) = some w ∧ (lw f base fc rp w).1 = 0 ∧ gr res.2 0 = w ∧ gr res.2 1 = (lw f base fc rp w).2) ∨
   (res.1 = 2 ∧ ∃ w, (alls rp.length (most.toNat + 1)).find? (fun w => (lw f base fc rp w).1 != 18) = some w ∧ (lw f base fc rp w).1 ≠ 0 ∧ gi res.2 0 = (lw f base fc rp w).1) ∨
   (res.1 = 4 ∧ (alls rp.length (most.toNat + 1)).find? (fun w => (lw f base fc rp w).1 != 18) = none))
  (fun j xs hj ⟨e, h⟩ => ?_) (fun xs ⟨e, h⟩ => ?_) (xs := xev f most base fc rp) ⟨rfl, fun q hq => absurd hq (by omega)⟩
 ·subst e
  obtain ⟨l1, l2, l3⟩ := xx3 g hm hl (n := most.toNat + 1) (by omega) hj
  have hR : inR (j : Int) ((alls rp.length (most.toNat + 1)).map encW) := xa1 (by rw [List.length_map]; exact hj)
  unfold xch
  simp only [hS, gi_1, gi_z, Int.toNat_natCast, xwh hj, List.length_map, dlt hj, xaa hR, xaa l1, l2, l3, xaA (show j < 4611686018427387904 by omega)]
  by_cases h18 : (lw f base fc rp ((alls rp.length (most.toNat + 1)).getD j [])).1 = 18
  ·have b0 : ((lw f base fc rp ((alls rp.length (most.toNat + 1)).getD j [])).1 == (0 : Int)) = false := by rw [h18]; rfl
   have b1 : ((lw f base fc rp ((alls rp.length (most.toNat + 1)).getD j [])).1 != (18 : Int)) = false := by rw [h18]; rfl
   rw [b0, cond_false, b1, cond_false]
   refine .inl ⟨_, rfl, rfl, fun q hq => ?_⟩
   by_cases e : q = j
   ·subst e; exact h18
   ·exact h q (by omega)
  ·have b1 : ((lw f base fc rp ((alls rp.length (most.toNat + 1)).getD j [])).1 != (18 : Int)) = true := by rw [bne_iff_ne]; exact h18
   have hf := xti (p := fun w => (lw f base fc rp w).1 != 18) hj (fun q hq => by simp only [h q hq]; rfl) b1
   by_cases h0 : (lw f base fc rp ((alls rp.length (most.toNat + 1)).getD j [])).1 = 0
   ·have b0 : ((lw f base fc rp ((alls rp.length (most.toNat + 1)).getD j [])).1 == (0 : Int)) = true := by rw [h0]; rfl
    rw [b0, cond_true]
    exact .inr ⟨0, _, rfl, .inl ⟨rfl, _, hf, h0, rfl, rfl⟩⟩
   ·have b0 : ((lw f base fc rp ((alls rp.length (most.toNat + 1)).getD j [])).1 == (0 : Int)) = false := by rw [beq_eq_false_iff_ne]; exact h0
    rw [b0, cond_false, b1, cond_true]
    exact .inr ⟨1, _, rfl, .inr (.inl ⟨rfl, _, hf, h0, rfl⟩)⟩
 ·subst e
  refine ⟨3, [.i 0, .i ((alls rp.length (most.toNat + 1)).length : Int)], ?_, .inr (.inr ⟨rfl, ?_⟩)⟩
  ·unfold xch
   simp only [hS, gi_1, gi_z, List.length_map, dnlt]
  ·exact List.find?_eq_none.2 fun x hx => by rw [xlv (P := fun x => (lw f base fc rp x).1 = 18) h x hx]; simp
theorem xD1 : xay (xcd f most base fc rp) (xfA f most base fc rp) ∧
  (((xaF f most base fc rp).1 = 2 ∧ ∃ w, (alls rp.length (most.toNat + 1)).find? (fun w => !decide (okE (lw f base fc rp w).1)) = some w ∧ gi (xaF f most base fc rp).2 0 = (lw f base fc rp w).1) ∨
   ((xaF f most base fc rp).1 = 4 ∧ (∀ w ∈ alls rp.length (most.toNat + 1), okE (lw f base fc rp w).1) ∧ gr (xaF f most base fc rp).2 2 = ((alls rp.length (most.toNat + 1)).filter fun w => decide ((lw f base fc rp w).1 = 0)).map fun w => hull (lw f base fc rp w).2)) := by
 have hS := (xqk hl hm).2
 have hlen := xp7 g hm hl (n := most.toNat + 1) (by omega)
 refine xdL (step := xcd f most base fc rp) (alls rp.length (most.toNat + 1)).length
  (fun j xs => xs = [.i 0, .i (j : Int), .r ((((alls rp.length (most.toNat + 1)).take j).filter fun w => decide ((lw f base fc rp w).1 = 0)).map fun w => hull (lw f base fc rp w).2)] ∧ ∀ q, q < j → okE (lw f base fc rp ((alls rp.length (most.toNat + 1)).getD q [])).1)
  (fun res => (res.1 = 2 ∧ ∃ w, (alls rp.length (most.toNat + 1)).find? (fun w => !decide (okE (lw f base fc rp w).1)) = some w ∧ gi res.2 0 = (lw f base fc rp w).1) ∨
   (res.1 = 4 ∧ (∀ w ∈ alls rp.length (most.toNat + 1), okE (lw f base fc rp w).1) ∧ gr res.2 2 = ((alls rp.length (most.toNat + 1)).filter fun w => decide ((lw f base fc rp w).1 = 0)).map fun w => hull (lw f base fc rp w).2))
  (fun j xs hj ⟨e, h⟩ => ?_) (fun xs ⟨e, h⟩ => ?_) (xs := xfA f most base fc rp) ⟨rfl, fun q hq => absurd hq (by omega)⟩
 ·subst e
  obtain ⟨l1, l2, l3⟩ := xx3 g hm hl (n := most.toNat + 1) (by omega) hj
  have hR : inR (j : Int) ((alls rp.length (most.toNat + 1)).map encW) := xa1 (by rw [List.length_map]; exact hj)
  have hstep : ∀ A : List (List Int), A.length ≤ 20000 → xcd f most base fc rp [.i 0, .i (j : Int), .r A] =
    bif (lw f base fc rp ((alls rp.length (most.toNat + 1)).getD j [])).1 == (0 : Int) then some (0, [.i 0, .i ((j + 1 : Nat) : Int), .r (A ++ [hull (lw f base fc rp ((alls rp.length (most.toNat + 1)).getD j [])).2])])
    else bif (lw f base fc rp ((alls rp.length (most.toNat + 1)).getD j [])).1 != (18 : Int) then some (2, [.i (lw f base fc rp ((alls rp.length (most.toNat + 1)).getD j [])).1]) else some (0, [.i 0, .i ((j + 1 : Nat) : Int), .r A]) := by
   intro A hA
   unfold xcd xkH xnQ
   simp only [hS, gi_1, gi_z, gr_2, gr_z, Int.toNat_natCast, xwh hj, List.length_map, dlt hj, xaa hR, xaa l1, l2, l3, xaA (show j < 4611686018427387904 by omega)]
   by_cases h0 : (lw f base fc rp ((alls rp.length (most.toNat + 1)).getD j [])).1 = 0
   ·have hv : VL (lw f base fc rp ((alls rp.length (most.toNat + 1)).getD j [])).2 := (xyj fc _ rp 0 base f g.vl g.rv).1 h0
    have hne : (lw f base fc rp ((alls rp.length (most.toNat + 1)).getD j [])).2 ≠ [] := fun e => by
     have := hv.1
     rw [e] at this
     exact absurd this (by decide)
    obtain ⟨u0, u1, u2, u3, u4⟩ := xy0 hne hv.2.2 (by have := hv.2.1; omega)
    have b0 : ((lw f base fc rp ((alls rp.length (most.toNat + 1)).getD j [])).1 == (0 : Int)) = true := by rw [h0]; rfl
    rw [b0, cond_true, cond_true, xaa u0, u1, u2, u3, u4]
    rw [xaa (xpE (by decide) (by simp only [List.length_cons, List.length_nil]; omega)), xEi]
   ·have b0 : ((lw f base fc rp ((alls rp.length (most.toNat + 1)).getD j [])).1 == (0 : Int)) = false := by rw [beq_eq_false_iff_ne]; exact h0
    rw [b0, cond_false, cond_false]
  have hAl : ((((alls rp.length (most.toNat + 1)).take j).filter fun w => decide ((lw f base fc rp w).1 = 0)).map fun w => hull (lw f base fc rp w).2).length ≤ 20000 := by
   rw [List.length_map]
   refine Nat.le_trans (List.length_filter_le _ _) ?_
   rw [List.length_take]
   omega
  rw [hstep _ hAl]
  have fo : ∀ x : List (List Int), [x].filter (fun w => decide ((lw f base fc rp w).1 = 0)) = if (lw f base fc rp x).1 = 0 then [x] else [] := fun x => by
   by_cases h : (lw f base fc rp x).1 = 0
   ·rw [if_pos h, List.filter_cons, decide_eq_true h]; rfl
   ·rw [if_neg h, List.filter_cons, decide_eq_false h]; rfl
  have nextOk : okE (lw f base fc rp ((alls rp.length (most.toNat + 1)).getD j [])).1 → ∀ q, q < j + 1 → okE (lw f base fc rp ((alls rp.length (most.toNat + 1)).getD q [])).1 := fun hk q hq => by
   by_cases e : q = j
   ·subst e; exact hk
   ·exact h q (by omega)
  by_cases h0 : (lw f base fc rp ((alls rp.length (most.toNat + 1)).getD j [])).1 = 0
  ·have b0 : ((lw f base fc rp ((alls rp.length (most.toNat + 1)).getD j [])).1 == (0 : Int)) = true := by rw [h0]; rfl
   rw [b0, cond_true]
   refine .inl ⟨_, rfl, ?_, nextOk (.inl h0)⟩
   rw [xwz hj, List.filter_append, List.map_append, fo, if_pos h0]
   rfl
  ·have b0 : ((lw f base fc rp ((alls rp.length (most.toNat + 1)).getD j [])).1 == (0 : Int)) = false := by rw [beq_eq_false_iff_ne]; exact h0
   rw [b0, cond_false]
   by_cases h18 : (lw f base fc rp ((alls rp.length (most.toNat + 1)).getD j [])).1 = 18
   ·have b1 : ((lw f base fc rp ((alls rp.length (most.toNat + 1)).getD j [])).1 != (18 : Int)) = false := by rw [h18]; rfl
    rw [b1, cond_false]
    refine .inl ⟨_, rfl, ?_, nextOk (.inr h18)⟩
    rw [xwz hj, List.filter_append, List.map_append, fo, if_neg h0, List.map_nil, List.append_nil]
   ·have b1 : ((lw f base fc rp ((alls rp.length (most.toNat + 1)).getD j [])).1 != (18 : Int)) = true := by rw [bne_iff_ne]; exact h18
    rw [b1, cond_true]
    have hk : ¬ okE (lw f base fc rp ((alls rp.length (most.toNat + 1)).getD j [])).1 := fun k => k.elim h0 h18
    have hf := xti (p := fun w => !decide (okE (lw f base fc rp w).1)) hj (fun q hq => by simp only [decide_eq_true (h q hq)]; rfl) (by simp only [decide_eq_false hk]; rfl)
    exact .inr ⟨1, _, rfl, .inl ⟨rfl, _, hf, rfl⟩⟩
 ·subst e
  refine ⟨3, [.i 0, .i ((alls rp.length (most.toNat + 1)).length : Int), .r (((alls rp.length (most.toNat + 1)).filter fun w => decide ((lw f base fc rp w).1 = 0)).map fun w => hull (lw f base fc rp w).2)], ?_, .inr ⟨rfl, xlv (P := fun w => okE (lw f base fc rp w).1) h, rfl⟩⟩
  unfold xcd
  simp only [hS, gi_1, gi_z, gr_2, gr_z, List.length_map, dnlt, List.take_length]
end
theorem xBo (a b c : List Int) : hul (hul a b) c = hul a (hul b c) := by
 unfold hul
 simp only [List.getD_cons_zero, List.getD_cons_succ]
 congr 1
 ·omega
 ·congr 1
  ·omega
  ·congr 1
   ·omega
   ·congr 1
    omega
theorem xr6 : ∀ (B : List (List Int)) (x : List Int), B ≠ [] → B.foldl hul x = hul x (hull B)
 | [b], x, _ => rfl
 | b :: c :: B, x, _ => by
  show (c :: B).foldl hul (hul x b) = hul x ((c :: B).foldl hul (q4 b))
  rw [xr6 (c :: B) (hul x b) (by simp), xr6 (c :: B) (q4 b) (by simp), xBo]
  rfl
theorem xyr {A B : List (List Int)} (hA : A ≠ []) (hB : B ≠ []) : hull (A ++ B) = hul (hull A) (hull B) := by
 cases A with
 | nil => exact absurd rfl hA
 | cons a A =>
  show (A ++ B).foldl hul (q4 a) = hul (A.foldl hul (q4 a)) (hull B)
  rw [List.foldl_append, xr6 B _ hB]
theorem xAS (L : List (List Int)) : q4 (hull L) = hull L := xEi L
theorem xxo : ∀ (L : List (List (List Int))), L ≠ [] → (∀ A ∈ L, A ≠ []) → hull (L.flatMap id) = hull (L.map hull)
 | [A], _, h => by
  show hull (A ++ []) = q4 (hull A)
  rw [List.append_nil, xAS]
 | A :: B :: L, _, h => by
  have ih := xxo (B :: L) (by simp) (fun C hC => h C (by simp [hC]))
  have hB := h B (by simp)
  have hne : (B :: L).flatMap id ≠ [] := by
   intro e
   rw [List.flatMap_cons] at e
   exact hB (List.append_eq_nil_iff.1 e).1
  show hull (A ++ (B :: L).flatMap id) = ((B :: L).map hull).foldl hul (q4 (hull A))
  rw [xyr (h A (by simp)) hne, ih, xr6 _ _ (by simp), xAS]
theorem xst (f most : Int) (base fc rp : List (List Int)) (h13 : Si.El13 rp) :
  xc4 f most base fc rp ∧ xaj f most base fc rp = (exR f most base fc rp).1 ∧ xd7 f most base fc rp = (exR f most base fc rp).2.1 ∧ xb5 f most base fc rp = (exR f most base fc rp).2.2 := by
 obtain ⟨a1, a2⟩ := xwU f most base fc rp h13
 unfold xc4 xaj xd7 xb5 xl0 exR
 rw [a2]
 by_cases h : askE f most base fc rp = 0
 ·obtain ⟨_, g, m0, m3, hl⟩ := xtK h
  obtain ⟨l1, l2⟩ := xD6 g ⟨m0, m3⟩ hl
  have s1 := (xqk hl ⟨m0, m3⟩).1
  rw [if_neg (fun k => k h), h]
  refine ⟨⟨a1, fun _ => ⟨s1, l1⟩⟩, ?_⟩
  have z0 : ((0 : Int) != 0) = false := rfl
  rw [z0, cond_false, cond_false, cond_false]
  rcases l2 with ⟨k1, w, k2, k3, k4, k5⟩ | ⟨k1, w, k2, k3, k4⟩ | ⟨k1, k2⟩
  ·rw [k1, k2, k4, k5]
   show _ = (if (lw f base fc rp w).1 ≠ 0 then (([], [], (lw f base fc rp w).1) : List (List Int) × List (List Int) × Int) else (w, (lw f base fc rp w).2, 0)).1 ∧ _ = (if (lw f base fc rp w).1 ≠ 0 then (([], [], (lw f base fc rp w).1) : List (List Int) × List (List Int) × Int) else (w, (lw f base fc rp w).2, 0)).2.1 ∧ _ = (if (lw f base fc rp w).1 ≠ 0 then (([], [], (lw f base fc rp w).1) : List (List Int) × List (List Int) × Int) else (w, (lw f base fc rp w).2, 0)).2.2
   rw [if_neg (fun k => k k3)]
   exact ⟨rfl, rfl, rfl⟩
  ·rw [k1, k2, k4]
   show _ = (if (lw f base fc rp w).1 ≠ 0 then (([], [], (lw f base fc rp w).1) : List (List Int) × List (List Int) × Int) else (w, (lw f base fc rp w).2, 0)).1 ∧ _ = (if (lw f base fc rp w).1 ≠ 0 then (([], [], (lw f base fc rp w).1) : List (List Int) × List (List Int) × Int) else (w, (lw f base fc rp w).2, 0)).2.1 ∧ _ = (if (lw f base fc rp w).1 ≠ 0 then (([], [], (lw f base fc rp w).1) : List (List Int) × List (List Int) × Int) else (w, (lw f base fc rp w).2, 0)).2.2
   rw [if_pos k3]
   exact ⟨rfl, rfl, rfl⟩
  ·rw [k1, k2]; exact ⟨rfl, rfl, rfl⟩
 ·have b : (askE f most base fc rp != (0 : Int)) = true := by rw [bne_iff_ne]; exact h
  rw [if_pos h, b]
  exact ⟨⟨a1, fun k => (by cases k)⟩, rfl, rfl, rfl⟩
theorem xtg {f : Int} {base fc rp : List (List Int)} (g : GS f base fc rp) : ∀ L : List (List (List Int)), (L.flatMap fun w => (lw f base fc rp w).2) = ((L.filter fun w => decide ((lw f base fc rp w).1 = 0)).map fun w => (lw f base fc rp w).2).flatMap id
 | [] => rfl
 | w :: L => by
  rw [List.flatMap_cons, xtg g L, List.filter_cons]
  by_cases h : (lw f base fc rp w).1 = 0
  ·rw [decide_eq_true h, if_pos rfl, List.map_cons, List.flatMap_cons]
   rfl
  ·have : (lw f base fc rp w).2 = [] := (xyj fc w rp 0 base f g.vl g.rv).2 h
   rw [decide_eq_false h, if_neg (by simp), this, List.nil_append]
theorem xAG (f most : Int) (base fc rp : List (List Int)) (h13 : Si.El13 rp) (hf : fc.length ≤ 9223372036854775807) :
  xfd f most base fc rp ∧ xcm f most base fc rp = xgV f most base fc rp ∧ xcl f most base fc rp = xgU f most base fc rp ∧ xck f most base fc rp = xgT f most base fc rp ∧
   xcj f most base fc rp = xgS f most base fc rp ∧ xci f most base fc rp = xgR f most base fc rp := by
 obtain ⟨a1, a2⟩ := xwU f most base fc rp h13
 obtain ⟨_, d2⟩ := xvh f most base fc rp h13 hf
 unfold xfd xgV xgU xgT xgS xgR xnP xnO xnN xnM xnL
 rw [a2]
 by_cases h : askE f most base fc rp = 0
 ·obtain ⟨_, g, m0, m3, hl⟩ := xtK h
  obtain ⟨l1, l2⟩ := xD1 g ⟨m0, m3⟩ hl
  have s1 := (xqk hl ⟨m0, m3⟩).1
  have hlen := xp7 g ⟨m0, m3⟩ hl (n := most.toNat + 1) (by omega)
  rw [h] at d2 ⊢
  have z0 : ((0 : Int) != 0) = false := rfl
  rw [z0, cond_false, cond_false, cond_false, cond_false, cond_false]
  rcases l2 with ⟨k1, w, k2, k3⟩ | ⟨k1, k2, k3⟩
  ·rw [k1, k3]
   refine ⟨⟨a1, fun _ => ⟨s1, l1, fun k => (by cases k)⟩⟩, ?_⟩
   rcases d2 with ⟨k, _⟩ | ⟨_, w', q1, q2, q3, q4, q5, q6⟩ | ⟨_, q1, _⟩ | ⟨_, q1, _⟩
   ·exact absurd rfl k
   ·rw [k2] at q1
    cases q1
    rw [q2, q3, q4, q5, q6]
    exact ⟨rfl, rfl, rfl, rfl, rfl⟩
   ·exact absurd (q1 w (xgt k2).1) (xgt k2).2
   ·exact absurd (q1 w (xgt k2).1) (xgt k2).2
  ·have hfl := xtg g (alls rp.length (most.toNat + 1))
   have hcomp : ((alls rp.length (most.toNat + 1)).filter fun w => decide ((lw f base fc rp w).1 = 0)).map (fun w => hull (lw f base fc rp w).2) = (((alls rp.length (most.toNat + 1)).filter fun w => decide ((lw f base fc rp w).1 = 0)).map fun w => (lw f base fc rp w).2).map hull := by
    rw [List.map_map]; rfl
   have hne : ∀ A ∈ (((alls rp.length (most.toNat + 1)).filter fun w => decide ((lw f base fc rp w).1 = 0)).map fun w => (lw f base fc rp w).2), A ≠ [] ∧ VL A := by
    intro A hA
    obtain ⟨w, hw, rfl⟩ := List.mem_map.1 hA
    have h0 : (lw f base fc rp w).1 = 0 := by simpa using (List.mem_filter.1 hw).2
    have hv : VL (lw f base fc rp w).2 := (xyj fc w rp 0 base f g.vl g.rv).1 h0
    refine ⟨fun e => ?_, hv⟩
    have := hv.1
    rw [e] at this
    exact absurd this (by decide)
   have hlen2 : (((alls rp.length (most.toNat + 1)).filter fun w => decide ((lw f base fc rp w).1 = 0)).map fun w => (lw f base fc rp w).2).length ≤ 20000 := by
    rw [List.length_map]
    exact Nat.le_trans (List.length_filter_le _ _) hlen
   rw [hcomp] at k3
   rw [hfl] at d2
   revert k3 d2 hne hlen2
   generalize (((alls rp.length (most.toNat + 1)).filter fun w => decide ((lw f base fc rp w).1 = 0)).map fun w => (lw f base fc rp w).2) = G
   intro d2 k3 hne hlen2
   rw [k1, k3]
   have bad : ∀ {X : Prop}, (∃ w, (alls rp.length (most.toNat + 1)).find? (fun w => !decide (okE (lw f base fc rp w).1)) = some w) → X := fun ⟨w, hw⟩ => absurd (k2 w (xgt hw).1) (xgt hw).2
   by_cases hG : G = []
   ·subst hG
    refine ⟨⟨a1, fun _ => ⟨s1, l1, fun _ k => (by cases k)⟩⟩, ?_⟩
    rcases d2 with ⟨k, _⟩ | ⟨_, w', q1, _⟩ | ⟨_, q1, q0, q2, q3, q4, q5, q6⟩ | ⟨_, q1, q0, _⟩
    ·exact absurd rfl k
    ·exact bad ⟨w', q1⟩
    ·rw [q2, q3, q4, q5, q6]
     exact ⟨rfl, rfl, rfl, rfl, rfl⟩
    ·exact absurd rfl q0
   ·have hm : G.map hull ≠ [] := by simpa using hG
    obtain ⟨u0, u1, u2, u3, u4⟩ := xy0 hm (fun b hb => by
     obtain ⟨A, hA, rfl⟩ := List.mem_map.1 hb
     exact xxQ (hne A hA).1 (hne A hA).2.2.2) (by rw [List.length_map]; omega)
    have hpos : 0 < (G.map hull).length := List.length_pos_iff.2 hm
    have b0 : (((G.map hull).length : Int) == 0) = false := by rw [beq_eq_false_iff_ne]; omega
    have hh := xxo G hG (fun A hA => (hne A hA).1)
    rw [b0]
    refine ⟨⟨a1, fun _ => ⟨s1, l1, fun _ _ => u0⟩⟩, ?_⟩
    have hfn : G.flatMap id ≠ [] := by
     cases G with
     | nil => exact absurd rfl hG
     | cons A G =>
      intro e
      rw [List.flatMap_cons] at e
      exact (hne A (by simp)).1 (List.append_eq_nil_iff.1 e).1
    rcases d2 with ⟨k, _⟩ | ⟨_, w', q1, _⟩ | ⟨_, q1, q0, _⟩ | ⟨_, q1, q0, q2, q3, q4, q5, q6⟩
    ·exact absurd rfl k
    ·exact bad ⟨w', q1⟩
    ·exact absurd q0 hfn
    ·rw [q2, q3, q4, q5, q6, hh, u1, u2, u3, u4]
     exact ⟨rfl, rfl, rfl, rfl, rfl⟩
 ·have b : (askE f most base fc rp != (0 : Int)) = true := by rw [bne_iff_ne]; exact h
  rw [b]
  refine ⟨⟨a1, fun k => (by cases k)⟩, ?_⟩
  rcases d2 with ⟨k, q2, q3, q4, q5, q6⟩ | ⟨k, _⟩ | ⟨k, _⟩ | ⟨k, _⟩
  ·rw [q2, q3, q4, q5, q6]; exact ⟨rfl, rfl, rfl, rfl, rfl⟩
  all_goals exact absurd k h
section
variable {f most : Int} {base fc rp : List (List Int)}
theorem xD4 {j : Nat} {x : U} {out W : List (List Int)} (hS : decL (((xal (rp.length : Int) ((xaj f most base fc rp).length : Int)).getD j []).getD 0 (0 : Int)) = W)
  (hjR : inR (j : Int) (xal (rp.length : Int) ((xaj f most base fc rp).length : Int))) (hw : W.length ≤ 9223372036854775807) (ho : out.length ≤ 1000) (h1 : ∀ e ∈ out, e.length = 1) :
  xay (xc2 f most base fc rp [x, .i (j : Int), .r out]) (xfD f most base fc rp [x, .i (j : Int), .r out]) ∧
  gr (xkJ f most base fc rp [x, .i (j : Int), .r out]).2 1 = out.filter (kp W) := by
 have key := xgN (σ := Unit) (step := xc2 f most base fc rp [x, .i (j : Int), .r out]) out.length (fun i _ => [.i (i : Int), .r ((out.take i).filter (kp W))]) (fun _ s => s) (fun _ _ => True) 2
  (fun _ => [.i (out.length : Int), .r (out.filter (kp W))]) (fun _ _ _ _ => trivial)
  (fun i _ hi _ => by
   have hlt : ((out.take i).filter (kp W)).length ≤ 1000 := by
    refine Nat.le_trans (List.length_filter_le _ _) ?_
    rw [List.length_take]; omega
   have he := h1 _ (xaW hi)
   have e1 : [(out.getD i []).getD 0 (0 : Int)] = out.getD i [] := by
    generalize out.getD i [] = e at he ⊢
    match e, he with
    | [z], _ => rfl
   obtain ⟨a1, a2⟩ := xAO ((out.getD i []).getD 0 (0 : Int)) W hw
   have e5 : gi [x, U.i (j : Int), U.r out] 1 = (j : Int) := by rw [gi_1, gi_z]
   have e6 : gr [x, U.i (j : Int), U.r out] 2 = out := by rw [gr_2, gr_z]
   unfold xc2
   simp only [e5, e6, gi_z, gr_1, gr_z, Int.toNat_natCast, hS, dlt hi, xaa hjR, xaa (xa1 hi), xaa a1, a2, xaA (show i < 4611686018427387904 by omega)]
   rw [Si.xbr hi, List.filter_append, xnw, e1]
   have ek : kp W (out.getD i []) = isW W ((out.getD i []).getD 0 (0 : Int)) := rfl
   rw [ek]
   cases isW W ((out.getD i []).getD 0 (0 : Int)) with
   | true =>
    rw [cond_true, if_pos rfl, xaa (xpE (by decide) (by simp only [List.length_cons, List.length_nil]; omega))]
   | false =>
    rw [cond_false, if_neg (by simp), List.append_nil])
  (fun _ _ => by
   have e6 : gr [x, U.i (j : Int), U.r out] 2 = out := by rw [gr_2, gr_z]
   unfold xc2
   simp only [e6, gi_z, gr_1, gr_z, dnlt, List.take_length])
  (s := ()) trivial
 have e0 : xfD f most base fc rp [x, .i (j : Int), .r out] = [.i ((0 : Nat) : Int), .r ((out.take 0).filter (kp W))] := rfl
 refine ⟨by rw [e0]; exact key.1, ?_⟩
 have e2 : xkJ f most base fc rp [x, .i (j : Int), .r out] = (3, [.i (out.length : Int), .r (out.filter (kp W))]) := key.2.1
 rw [e2]
 rfl
noncomputable def nmG (f : Int) (base fc rp : List (List Int)) (k : Nat) (out W : List (List Int)) : List (List Int) := if W.length < k then out else nmF f base fc rp out W
theorem xDn {k : Nat} {out W : List (List Int)} (h : ∀ e ∈ out, e.length = 1) : (∀ e ∈ nmG f base fc rp k out W, e.length = 1) ∧ (nmG f base fc rp k out W).length ≤ out.length := by
 unfold nmG nmF
 split
 ·exact ⟨h, Nat.le_refl _⟩
 ·split
  ·exact ⟨fun e he => h e (List.mem_filter.1 he).1, List.length_filter_le _ _⟩
  ·exact ⟨h, Nat.le_refl _⟩
theorem xD5 (g : GS f base fc rp) (hl : rp.length ≤ 12) {k : Nat} (hk : (xaj f most base fc rp).length = k) (hk3 : k ≤ 3) (h1 : ∀ e ∈ xaj f most base fc rp, e.length = 1) :
  xay (xc3 f most base fc rp) (xfE f most base fc rp) ∧
  (((xdQ f most base fc rp).1 = 3 ∧ ∃ w, (alls rp.length (k + 1)).find? (fun w => decide (k ≤ w.length) && !decide (okE (lw f base fc rp w).1)) = some w ∧ gi (xdQ f most base fc rp).2 0 = (lw f base fc rp w).1) ∨
   ((xdQ f most base fc rp).1 = 5 ∧ (∀ w ∈ alls rp.length (k + 1), k ≤ w.length → okE (lw f base fc rp w).1) ∧ gr (xdQ f most base fc rp).2 2 = (alls rp.length (k + 1)).foldl (nmG f base fc rp k) (xaj f most base fc rp))) := by
 have hm : (0 : Int) ≤ (k : Int) ∧ (k : Int) ≤ 3 := by omega
 have hS := (xqk (m := rp.length) hl hm).2
 rw [show ((k : Int)).toNat + 1 = k + 1 by omega, ← hk] at hS
 rw [hk] at hS
 have hSk : xal (rp.length : Int) ((xaj f most base fc rp).length : Int) = (alls rp.length (k + 1)).map encW := by rw [hk]; exact hS
 have hlen := xp7 (most := (k : Int)) g hm hl (n := k + 1) (by omega)
 refine xdL (step := xc3 f most base fc rp) (alls rp.length (k + 1)).length
  (fun j xs => ∃ out, xs = [.i 0, .i (j : Int), .r out] ∧ out = ((alls rp.length (k + 1)).take j).foldl (nmG f base fc rp k) (xaj f most base fc rp) ∧ (∀ e ∈ out, e.length = 1) ∧ out.length ≤ 3 ∧ ∀ q, q < j → k ≤ ((alls rp.length (k + 1)).getD q []).length → okE (lw f base fc rp ((alls rp.length (k + 1)).getD q [])).1)
  (fun res => (res.1 = 3 ∧ ∃ w, (alls rp.length (k + 1)).find? (fun w => decide (k ≤ w.length) && !decide (okE (lw f base fc rp w).1)) = some w ∧ gi res.2 0 = (lw f base fc rp w).1) ∨
   (res.1 = 5 ∧ (∀ w ∈ alls rp.length (k + 1), k ≤ w.length → okE (lw f base fc rp w).1) ∧ gr res.2 2 = (alls rp.length (k + 1)).foldl (nmG f base fc rp k) (xaj f most base fc rp)))
  (fun j xs hj ⟨out, e, p1, p2, p3, p4⟩ => ?_) (fun xs ⟨out, e, p1, p2, p3, p4⟩ => ?_) (xs := xfE f most base fc rp) ⟨_, rfl, rfl, h1, by omega, fun q hq => absurd hq (by omega)⟩
 ·subst e
  obtain ⟨l1, l2, l3⟩ := xx3 (most := (k : Int)) g hm hl (n := k + 1) (by omega) hj
  have hR : inR (j : Int) ((alls rp.length (k + 1)).map encW) := xa1 (by rw [List.length_map]; exact hj)
  have hsm := xvd (xCt hj) (by omega)
  generalize hWd : (alls rp.length (k + 1)).getD j [] = W at l1 l2 l3 hsm
  have hW : decL ((((alls rp.length (k + 1)).map encW).getD j []).getD 0 (0 : Int)) = W := by rw [xwh hj]; exact hWd
  obtain ⟨n1, n2⟩ := xD4 (f := f) (most := most) (base := base) (fc := fc) (rp := rp) (j := j) (x := .i 0) (out := out) (W := W) (by rw [hSk]; exact hW) (by rw [hSk]; exact hR) hsm (by omega) p2
  have next : ∀ out', out' = nmG f base fc rp k out W → (k ≤ W.length → okE (lw f base fc rp W).1) →
    ∃ o, [U.i 0, U.i ((j + 1 : Nat) : Int), U.r out'] = [.i 0, .i ((j + 1 : Nat) : Int), .r o] ∧ o = ((alls rp.length (k + 1)).take (j + 1)).foldl (nmG f base fc rp k) (xaj f most base fc rp) ∧ (∀ e ∈ o, e.length = 1) ∧ o.length ≤ 3 ∧ ∀ q, q < j + 1 → k ≤ ((alls rp.length (k + 1)).getD q []).length → okE (lw f base fc rp ((alls rp.length (k + 1)).getD q [])).1 := fun out' ho hok => by
   obtain ⟨g1, g2⟩ := xDn (f := f) (base := base) (fc := fc) (rp := rp) (k := k) (W := W) p2
   refine ⟨out', rfl, ?_, by rw [ho]; exact g1, by rw [ho]; omega, fun q hq hkq => ?_⟩
   ·rw [xwz hj, List.foldl_append, ← p1, hWd]; exact ho
   ·by_cases e : q = j
    ·subst e
     rw [hWd] at hkq ⊢
     exact hok hkq
    ·exact p4 q (by omega) hkq
  unfold xc3
  rw [xaa n1, n2]
  simp only [hk, hS, gi_1, gi_z, gr_2, gr_z, Int.toNat_natCast, hW, List.length_map, dlt hj, xaa hR, xaa l1, l2, xaA (show j < 4611686018427387904 by omega)]
  by_cases hlt : W.length < k
  ·rw [decide_eq_true (show (W.length : Int) < (k : Int) by omega), cond_true]
   exact .inl ⟨_, rfl, next _ (by unfold nmG; rw [if_pos hlt]) (fun h => by omega)⟩
  ·rw [decide_eq_false (show ¬ (W.length : Int) < (k : Int) by omega), cond_false]
   by_cases h18 : (lw f base fc rp W).1 = 18
   ·have b1 : ((lw f base fc rp W).1 == (18 : Int)) = true := by rw [beq_iff_eq]; exact h18
    rw [b1, cond_true]
    refine .inl ⟨_, rfl, next _ ?_ (fun _ => .inr h18)⟩
    unfold nmG nmF
    rw [if_neg hlt, if_neg (by omega)]
   ·have b1 : ((lw f base fc rp W).1 == (18 : Int)) = false := by rw [beq_eq_false_iff_ne]; exact h18
    rw [b1, cond_false]
    by_cases h0 : (lw f base fc rp W).1 = 0
    ·have b0 : ((lw f base fc rp W).1 != (0 : Int)) = false := by rw [bne_eq_false_iff_eq]; exact h0
     rw [b0, cond_false]
     refine .inl ⟨_, rfl, next _ ?_ (fun _ => .inl h0)⟩
     unfold nmG nmF
     rw [if_neg hlt, if_pos h0]
    ·have b0 : ((lw f base fc rp W).1 != (0 : Int)) = true := by rw [bne_iff_ne]; exact h0
     rw [b0, cond_true]
     have hk' : ¬ okE (lw f base fc rp W).1 := fun k => k.elim h0 h18
     have hf := xti (p := fun w => decide (k ≤ w.length) && !decide (okE (lw f base fc rp w).1)) hj (fun q hq => by
      by_cases hkq : k ≤ ((alls rp.length (k + 1)).getD q []).length
      ·simp only [decide_eq_true (p4 q hq hkq), Bool.not_true, Bool.and_false]
      ·simp only [decide_eq_false hkq, Bool.false_and]) (by rw [hWd]; simp only [decide_eq_false hk', decide_eq_true (show k ≤ W.length by omega)]; rfl)
     rw [hWd] at hf
     exact .inr ⟨2, _, rfl, .inl ⟨rfl, _, hf, rfl⟩⟩
 ·subst e
  refine ⟨4, [.i 0, .i ((alls rp.length (k + 1)).length : Int), .r out], ?_, .inr ⟨rfl, xlv (P := fun w => k ≤ w.length → okE (lw f base fc rp w).1) p4, by rw [gr_2, gr_z, p1, List.take_length]⟩⟩
  unfold xc3
  simp only [hk, hS, gi_1, gi_z, gr_2, gr_z, List.length_map, dnlt]
end
theorem xAN (f most : Int) (base fc rp : List (List Int)) (h13 : Si.El13 rp) (hf : fc.length ≤ 9223372036854775807) :
  xfe f most base fc rp ∧ xcn f most base fc rp = xgW f most base fc rp ∧ xdW f most base fc rp = xhN f most base fc rp := by
 obtain ⟨e1, e2, e3, e4⟩ := xst f most base fc rp h13
 obtain ⟨_, d2⟩ := xr2 f most base fc rp h13 hf
 unfold xfe xgW xhN
 rw [e4]
 by_cases h : (exR f most base fc rp).2.2 = 0
 ·obtain ⟨ha, hm, _⟩ := xDG h
  obtain ⟨_, g, m0, m3, hl⟩ := xtK ha
  obtain ⟨o1, o2, o3⟩ := xp6 hm
  have hs3 : (exR f most base fc rp).1.length ≤ 3 := by omega
  have s1 := (xqk (m := rp.length) (most := ((exR f most base fc rp).1.length : Int)) hl (by omega)).1
  obtain ⟨l1, l2⟩ := xD5 (most := most) g hl (k := (exR f most base fc rp).1.length) (by rw [e2]) hs3 (by rw [e2]; exact o3)
  rw [h] at d2 ⊢
  have z0 : ((0 : Int) != 0) = false := rfl
  rw [z0, cond_false, cond_false]
  refine ⟨⟨e1, fun _ => ⟨by rw [e2]; exact s1, l1⟩⟩, ?_⟩
  rw [e2] at l2
  generalize hk : (exR f most base fc rp).1.length = k at l2 d2
  have short : ∀ w ∈ alls rp.length k, w.length < k := fun w hw => (xp6 hw).1
  have long : ∀ w ∈ xaB rp.length (k : Int), w.length = k := fun w hw => by have := xpL hw; omega
  have hfind : (alls rp.length (k + 1)).find? (fun w => decide (k ≤ w.length) && !decide (okE (lw f base fc rp w).1)) = (xaB rp.length (k : Int)).find? (fun w => !decide (okE (lw f base fc rp w).1)) := by
   show (alls rp.length k ++ xaB rp.length (k : Int)).find? _ = _
   rw [List.find?_append, List.find?_eq_none.2 (fun w hw => by rw [decide_eq_false (by have := short w hw; omega)]; simp)]
   show (xaB rp.length (k : Int)).find? _ = _
   have : ∀ D : List (List (List Int)), (∀ w ∈ D, w.length = k) → D.find? (fun w => decide (k ≤ w.length) && !decide (okE (lw f base fc rp w).1)) = D.find? (fun w => !decide (okE (lw f base fc rp w).1)) := by
    intro D
    induction D with
    | nil => intro _; rfl
    | cons w D ih =>
     intro hD
     rw [List.find?_cons, List.find?_cons, ih (fun x hx => hD x (by simp [hx])), decide_eq_true (show k ≤ w.length by rw [hD w (by simp)]; exact Nat.le_refl _), Bool.true_and]
   exact this _ long
  have hfold : ∀ o : List (List Int), (alls rp.length (k + 1)).foldl (nmG f base fc rp k) o = (xaB rp.length (k : Int)).foldl (nmF f base fc rp) o := by
   intro o
   show (alls rp.length k ++ xaB rp.length (k : Int)).foldl _ o = _
   rw [List.foldl_append]
   have a1 : ∀ D : List (List (List Int)), (∀ w ∈ D, w.length < k) → ∀ o, D.foldl (nmG f base fc rp k) o = o := by
    intro D
    induction D with
    | nil => intro _ o; rfl
    | cons w D ih =>
     intro hD o
     rw [List.foldl_cons, ih (fun x hx => hD x (by simp [hx]))]
     unfold nmG
     rw [if_pos (hD w (by simp))]
   have a2 : ∀ D : List (List (List Int)), (∀ w ∈ D, w.length = k) → ∀ o, D.foldl (nmG f base fc rp k) o = D.foldl (nmF f base fc rp) o := by
    intro D
    induction D with
    | nil => intro _ o; rfl
    | cons w D ih =>
     intro hD o
     rw [List.foldl_cons, List.foldl_cons, ih (fun x hx => hD x (by simp [hx]))]
     congr 1
     unfold nmG
     rw [if_neg (by have := hD w (by simp); omega)]
   rw [a1 _ short, a2 _ long]
  rcases l2 with ⟨k1, w, k2, k3⟩ | ⟨k1, k2, k3⟩
  ·rw [k1, k3]
   rw [hfind] at k2
   rcases d2 with ⟨q, _⟩ | ⟨_, ⟨w', q1, q2⟩, q3⟩ | ⟨_, q1, _⟩
   ·exact absurd rfl q
   ·rw [k2] at q1
    cases q1
    rw [q2, q3]
    exact ⟨rfl, rfl⟩
   ·exact absurd (q1 w (xgt k2).1) (xgt k2).2
  ·rw [k1, k3, hfold]
   have ok : ∀ w ∈ xaB rp.length (k : Int), okE (lw f base fc rp w).1 := fun w hw => k2 w (List.mem_append.2 (.inr hw)) (by rw [long w hw]; exact Nat.le_refl _)
   rcases d2 with ⟨q, _⟩ | ⟨_, ⟨w', q1, q2⟩, q3⟩ | ⟨_, q1, q2, q3⟩
   ·exact absurd rfl q
   ·exact absurd (ok w' (xgt q1).1) (xgt q1).2
   ·rw [q2, q3]
    exact ⟨rfl, rfl⟩
 ·have b : ((exR f most base fc rp).2.2 != (0 : Int)) = true := by rw [bne_iff_ne]; exact h
  rw [b]
  refine ⟨⟨e1, fun k => (by cases k)⟩, ?_⟩
  rcases d2 with ⟨_, q1, q2⟩ | ⟨q, _⟩ | ⟨q, _⟩
  ·rw [q1, q2]; exact ⟨rfl, rfl⟩
  all_goals exact absurd q h
theorem xAC (a : List (List Int)) (h : a.length ≤ 1000) : xby a a ∧ xaS a a = true := by
 obtain ⟨h1, h2⟩ := xxY a a (by omega)
 exact ⟨h1, h2.2 ⟨rfl, fun i _ => by simp [xAF]⟩⟩
theorem xBm (a : List (List Int)) (h : a.length ≤ 1000) : xb7 a a ∧ xbe a a = true := by
 obtain ⟨h1, h2⟩ := Si.xyp a a (by omega)
 exact ⟨h1, h2.2 ⟨rfl, fun i _ => rfl⟩⟩
theorem xEm (f : Int) (base fc rp wr : List (List Int)) : (fL f base fc rp wr).length ≤ 1000 := by
 unfold fL
 split
 ·rename_i h
  rcases xjh f base fc rp with ⟨e, _⟩ | ⟨e, _⟩ | ⟨e, g, _⟩
  ·rw [e] at h; exact absurd h.1 (by decide)
  ·rw [e] at h; exact absurd h.1 (by decide)
  ·have := xuT g wr
   unfold lw at this
   omega
 ·exact Nat.zero_le _
theorem xyu (f most : Int) (base fc rp : List (List Int)) : (exR f most base fc rp).1.length ≤ 1000 ∧ (exR f most base fc rp).2.1.length ≤ 1000 := by
 by_cases h : (exR f most base fc rp).2.2 = 0
 ·obtain ⟨ha, hm, _, _, h2⟩ := xDG h
  obtain ⟨_, g, m0, m3, hl⟩ := xtK ha
  have h3 := (xp6 hm).1
  refine ⟨by omega, ?_⟩
  rw [h2]
  have := xuT g (exR f most base fc rp).1
  omega
 ·obtain ⟨h1, h2⟩ := xEp h
  rw [h1, h2]
  exact ⟨Nat.zero_le _, Nat.zero_le _⟩
theorem xA1 (f : Int) (base fc rp : List (List Int)) : ∀ (D : List (List (List Int))) (o : List (List Int)), (D.foldl (nmF f base fc rp) o).length ≤ o.length
 | [], o => Nat.le_refl _
 | w :: D, o => by
  refine Nat.le_trans (xA1 f base fc rp D _) ?_
  unfold nmF
  split
  ·exact List.length_filter_le _ _
  ·exact Nat.le_refl _
theorem xA3 (f most : Int) (base fc rp : List (List Int)) (h13 : Si.El13 rp) (hf : fc.length ≤ 9223372036854775807) : (xcn f most base fc rp).length ≤ 1000 := by
 obtain ⟨_, d2⟩ := xr2 f most base fc rp h13 hf
 rcases d2 with ⟨_, _, e⟩ | ⟨_, _, e⟩ | ⟨_, _, _, e⟩
 ·rw [e]; exact Nat.zero_le _
 ·rw [e]; exact Nat.zero_le _
 ·rw [e]; exact Nat.le_trans (xA1 _ _ _ _ _ _) (xyu f most base fc rp).1
theorem xuy (f most : Int) (base fc rp wr tr : List (List Int)) (h13 : Si.El13 rp) (hf : fc.length ≤ 9223372036854775807) (hw : wr.length ≤ 9223372036854775807) :
  xbF f most base fc rp wr tr = true ∧ xa4 f most base fc rp wr tr := by
 obtain ⟨hh, hp⟩ := xDB
 obtain ⟨a0, a1, a2⟩ := xpC f base fc rp wr h13 hf hw
 obtain ⟨b0, b1, b2⟩ := xzO f base fc rp wr h13 hw
 obtain ⟨c0, c1, c2⟩ := xzs f base fc rp wr tr h13 hf hw
 obtain ⟨d0, d1, d2⟩ := xAR f base fc rp wr tr h13 hw
 obtain ⟨e0, e1, e2, e3⟩ := xnx f most base fc rp h13 hf
 obtain ⟨g0, g1, g2, g3⟩ := xst f most base fc rp h13
 obtain ⟨k0, k1, k2, k3, k4, k5⟩ := xAG f most base fc rp h13 hf
 obtain ⟨w0, _⟩ := xvh f most base fc rp h13 hf
 obtain ⟨n0, n1, n2⟩ := xAN f most base fc rp h13 hf
 obtain ⟨m0, _⟩ := xr2 f most base fc rp h13 hf
 have S1 := xAC (fL f base fc rp wr) (xEm f base fc rp wr)
 have S2 := xBm (exR f most base fc rp).1 (xyu f most base fc rp).1
 have S3 := xAC (exR f most base fc rp).2.1 (xyu f most base fc rp).2
 have S4 := xBm (xcn f most base fc rp) (xA3 f most base fc rp h13 hf)
 have f0 : xdb f most base fc rp = (exR f most base fc rp).1 := e1
 have f1 : xdX f most base fc rp = (exR f most base fc rp).2.1 := e2
 have f2 : xda f most base fc rp = (exR f most base fc rp).2.2 := e3
 have f3 : xcc f most base fc rp := e0
 unfold xbF xa4
 rw [hh, a1, a2, b1, b2, c1, c2, d1, d2, f0, f1, f2, g1, g2, g3, ← k1, ← k2, ← k3, ← k4, ← k5, ← n1, ← n2, S1.2, S2.2, S3.2, S4.2]
 refine ⟨?_, hp, a0, b0, fun _ => S1.1, c0, d0, fun _ => ⟨f3, g0, fun _ => S2.1, fun _ => S3.1, w0, k0, m0, n0, fun _ => S4.1⟩⟩
 simp
end Go.Proofs.YtnijhjpaplihbaaGreat
