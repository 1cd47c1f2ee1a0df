/- Several texts in one (wip/xiS.py): XDeskP XDeskQ XDeskR. -/
import Derived.Test.YtnijhjpaplihbaaGreatSeen
import Derived.Test.YtnijhjpaplihbaaGreatDesk1D
set_option linter.unusedVariables false
set_option linter.unusedSimpArgs false
set_option linter.unusedSectionVars false
namespace Go.Proofs.YtnijhjpaplihbaaGreat
open Go Go.Sy
theorem xhE {l : List (List Int)} {i : Nat} (h : i < l.length) : l.drop i = l.getD i [] :: l.drop (i + 1) := by
 rw [List.drop_eq_getElem_cons h, List.getD_eq_getElem?_getD, List.getElem?_eq_getElem h]; rfl
def tsB (b0 : Int) : Int → List (List Int) → Bool
 | _, [] => true
 | last, r :: rs => decide (last ≤ r.getD 2 0) && (r.getD 3 0 == b0) && tsB b0 (r.getD 2 0) rs
theorem xyR (b0 last : Int) (r : List Int) (rs : List (List Int)) : tsB b0 last (r :: rs) = (decide (last ≤ r.getD 2 0) && (r.getD 3 0 == b0) && tsB b0 (r.getD 2 0) rs) := rfl
noncomputable def svE (f : Int) (base fc rp : List (List Int)) : Int :=
 if xaq rp = true ∧ VL base ∧ VC fc ∧ 0 ≤ f ∧ f ≤ 10000000 then (if tsB ((rp.getD 0 []).getD 3 0) f rp = true then (if (xa9 rp).length < rp.length then 5 else 0) else 1) else 1
theorem xEa (l : List (List Int)) : xcO l = bif xaq l then 0 else 1 := by
 unfold xcO
 cases xaq l <;> rfl
theorem xC3 (f : Int) (base fc rp : List (List Int)) (hl : rp.length ≤ 60) : xay (xbK f base fc rp) (xdr f base fc rp) ∧ (xj4 f base fc rp).1.beq 1 = !tsB ((rp.getD 0 []).getD 3 0) f rp := by
 refine xdL (step := xbK f base fc rp) rp.length (fun j xs => ∃ last, xs = [.i 0, .i last, .i (j : Int)] ∧ tsB ((rp.getD 0 []).getD 3 0) f rp = tsB ((rp.getD 0 []).getD 3 0) last (rp.drop j))
  (fun res => res.1.beq 1 = !tsB ((rp.getD 0 []).getD 3 0) f rp)
  (fun j xs hj ⟨last, e, hts⟩ => ?_) (fun xs ⟨last, e, hts⟩ => ?_) (xs := xdr f base fc rp) ⟨f, rfl, rfl⟩
 ·subst e
  have h0 : inR (0 : Int) rp := by unfold inR; omega
  rw [xhE hj] at hts
  rw [xyR] at hts
  unfold xbK
  simp only [gi_1, gi_2, gi_z, dlt hj, xaa (xa1 hj), Int.toNat_natCast, xaA (show j < 4611686018427387904 by omega), Int.toNat_zero]
  rw [xaa (fun _ => h0), xaa (fun _ => h0), xaa (fun _ => h0)]
  by_cases h1 : (rp.getD j []).getD 2 0 < last
  ·rw [decide_eq_true h1, Bool.true_or, cond_true]
   refine .inr ⟨0, [], rfl, ?_⟩
   rw [hts, decide_eq_false (show ¬ last ≤ (rp.getD j []).getD 2 0 by omega)]
   rfl
  ·rw [decide_eq_false h1, Bool.false_or]
   by_cases h2 : (rp.getD j []).getD 3 0 = (rp.getD 0 []).getD 3 0
   ·have e2 : ((rp.getD j []).getD 3 0 != (rp.getD 0 []).getD 3 0) = false := by simp only [h2, bne_self_eq_false]
    rw [e2, cond_false]
    refine .inl ⟨_, rfl, _, rfl, ?_⟩
    rw [hts, decide_eq_true (show last ≤ (rp.getD j []).getD 2 0 by omega), h2]
    simp
   ·have e2 : ((rp.getD j []).getD 3 0 != (rp.getD 0 []).getD 3 0) = true := by rw [bne_iff_ne]; exact h2
    rw [e2, cond_true]
    refine .inr ⟨0, [], rfl, ?_⟩
    have e3 : ((rp.getD j []).getD 3 0 == (rp.getD 0 []).getD 3 0) = false := by rw [beq_eq_false_iff_ne]; exact h2
    rw [hts, e3]
    simp
 ·subst e
  refine ⟨2, [.i 0, .i last, .i rp.length], ?_, ?_⟩
  ·unfold xbK
   simp only [gi_1, gi_2, gi_z, dnlt]
  ·rw [hts, List.drop_length]
   rfl
theorem xC4 (f : Int) (base fc rp : List (List Int)) (h13 : Si.El13 rp) (hf : fc.length ≤ 9223372036854775807) : xbC f base fc rp ∧ xao f base fc rp = svE f base fc rp := by
 have hm := Si.xzG rp h13
 have hv := (Si.xhJ rp).2
 have hb := xhJ base
 have hc := xlT fc hf
 unfold xbC xao xj3 svE
 rw [xEa, hb.2, hc.2]
 have hcond : ((bif xaq rp then (0 : Int) else 1) != 0 || !decide (VL base) || !decide (VC fc) || decide (f < 0) || decide (f > 10000000)) = !decide (xaq rp = true ∧ VL base ∧ VC fc ∧ 0 ≤ f ∧ f ≤ 10000000) := by
  rw [Bool.eq_iff_iff]
  cases xaq rp <;> by_cases h2 : VL base <;> by_cases h3 : VC fc <;> simp [h2, h3] <;> omega
 rw [hcond]
 by_cases h : xaq rp = true ∧ VL base ∧ VC fc ∧ 0 ≤ f ∧ f ≤ 10000000
 ·have hl : rp.length ≤ 60 := by
   have := h.1
   rw [hv, Bool.and_eq_true, decide_eq_true_eq] at this
   exact this.1
  obtain ⟨g1, g2⟩ := xC3 f base fc rp hl
  rw [decide_eq_true h, if_pos h, g2]
  refine ⟨⟨hm, fun _ => hb.1, fun _ => hc.1, fun _ => g1⟩, ?_⟩
  rw [Bool.not_true, cond_false]
  cases tsB ((rp.getD 0 []).getD 3 0) f rp with
  | false => rfl
  | true =>
   rw [Bool.not_true, cond_false, if_pos rfl]
   by_cases hlt : (xa9 rp).length < rp.length
   ·rw [decide_eq_true (by omega), if_pos hlt]; rfl
   ·rw [decide_eq_false (by omega), if_neg hlt]; rfl
 ·rw [decide_eq_false h, if_neg h]
  exact ⟨⟨hm, fun _ => hb.1, fun _ => hc.1, fun h => (by cases h)⟩, rfl⟩
def wB (m : Int) : Int → List (List Int) → Bool
 | _, [] => true
 | last, e :: r => decide (last < e.getD 0 0) && decide (e.getD 0 0 < m) && wB m (e.getD 0 0) r
theorem xAp (m last : Int) (e : List Int) (r : List (List Int)) : wB m last (e :: r) = (decide (last < e.getD 0 0) && decide (e.getD 0 0 < m) && wB m (e.getD 0 0) r) := rfl
theorem xDY (f : Int) (base fc rp wr : List (List Int)) (hw : wr.length ≤ 9223372036854775807) : xbM f base fc rp wr ∧ xa2 f base fc rp wr = wB rp.length (-1) wr := by
 have key := xdL (step := xb9 f base fc rp wr) wr.length (fun j xs => ∃ last, xs = [.b false, .i last, .i (j : Int)] ∧ wB rp.length (-1) wr = wB rp.length last (wr.drop j))
  (fun res => res.1.beq 1 = !wB rp.length (-1) wr)
  (fun j xs hj ⟨last, e, hts⟩ => by
   subst e
   rw [xhE hj] at hts
   rw [xAp] at hts
   unfold xb9
   simp only [gi_1, gi_2, gi_z, gb_z, dlt hj, xaa (xa1 hj), Int.toNat_natCast, xfW (show j < 9223372036854775807 by omega)]
   by_cases h1 : last < (wr.getD j []).getD 0 0 ∧ (wr.getD j []).getD 0 0 < rp.length
   ·rw [decide_eq_false (show ¬ (wr.getD j []).getD 0 0 ≤ last by omega), decide_eq_false (show ¬ (wr.getD j []).getD 0 0 ≥ (rp.length : Int) by omega), Bool.false_or, cond_false]
    refine .inl ⟨_, rfl, _, rfl, ?_⟩
    rw [hts, decide_eq_true h1.1, decide_eq_true h1.2]
    rfl
   ·have : (decide ((wr.getD j []).getD 0 0 ≤ last) || decide ((wr.getD j []).getD 0 0 ≥ (rp.length : Int))) = true := by
     rw [Bool.or_eq_true, decide_eq_true_eq, decide_eq_true_eq]; omega
    rw [this, cond_true]
    refine .inr ⟨0, [], rfl, ?_⟩
    have : (decide (last < (wr.getD j []).getD 0 0) && decide ((wr.getD j []).getD 0 0 < (rp.length : Int))) = false := by
     rw [Bool.and_eq_false_iff, decide_eq_false_iff_not, decide_eq_false_iff_not]; omega
    rw [hts, this]
    rfl)
  (fun xs ⟨last, e, hts⟩ => by
   subst e
   refine ⟨2, [.b false, .i last, .i wr.length], ?_, ?_⟩
   ·unfold xb9
    simp only [gi_1, gi_2, gi_z, gb_z, dnlt]
   ·rw [hts, List.drop_length]
    rfl)
  (xs := xe4 f base fc rp wr) ⟨-1, rfl, rfl⟩
 refine ⟨key.1, ?_⟩
 have e : (xje f base fc rp wr).1.beq 1 = !wB rp.length (-1) wr := key.2
 unfold xa2
 rw [e]
 cases wB rp.length (-1) wr <;> rfl
def isW (wr : List (List Int)) (i : Int) : Bool := wr.any fun e => i == e.getD 0 0
theorem xCI {m : Int} : ∀ (wr : List (List Int)) (last : Int), wB m last wr = true → -1 ≤ last → last < m → last + wr.length < m ∨ wr = []
 | [], _, _, _, _ => .inr rfl
 | e :: r, last, h, h0, h1 => by
  unfold wB at h
  simp only [Bool.and_eq_true, decide_eq_true_eq] at h
  rcases xCI r (e.getD 0 0) h.2 (by omega) (by omega) with h2 | h2
  ·left; simp only [List.length_cons]; omega
  ·left; subst h2; simp only [List.length_cons, List.length_nil]; omega
theorem xAo {m : Nat} {wr : List (List Int)} (h : wB m (-1) wr = true) : wr.length ≤ m := by
 rcases xCI wr (-1) h (by omega) (by omega) with h1 | h1
 ·omega
 ·subst h1; exact Nat.zero_le _
theorem xho {wr : List (List Int)} {p : List Int → Bool} : wr.any p = true ↔ ∃ i, i < wr.length ∧ p (wr.getD i []) = true := by
 rw [List.any_eq_true]
 constructor
 ·rintro ⟨x, hx, h⟩
  obtain ⟨i, hi, rfl⟩ := xe1 hx
  exact ⟨i, hi, h⟩
 ·rintro ⟨i, hi, h⟩
  exact ⟨_, xaW hi, h⟩
theorem xDs (f : Int) (base fc rp wr : List (List Int)) (hw : wr.length ≤ 9223372036854775806) (y0 : List U) :
  xay (xbR f base fc rp wr y0) (xfL f base fc rp wr y0) ∧
  decide ((bif (xds f base fc rp wr y0).1.beq 1 then gi (xds f base fc rp wr y0).2 0 else -1) ≥ (0 : Int)) = isW wr (gi y0 2) := by
 have key := xa6 (step := xbR f base fc rp wr y0) wr.length (fun q => gi y0 2 == (wr.getD q []).getD 0 0) (fun q => [.i 0, .i q]) (fun q => [.i q]) 0 2 [.i 0, .i wr.length]
  (fun q hq => by
   unfold xbR
   simp only [gi_1, gi_z, dlt hq, xaa (xa1 hq), Int.toNat_natCast, xfW (show q < 9223372036854775807 by omega)])
  (by
   unfold xbR
   simp only [gi_1, gi_z, dnlt])
 refine ⟨key.1, ?_⟩
 rcases key.2 with ⟨q, q1, q2, q3, q4⟩ | ⟨q3, q4⟩
 ·have e : xds f base fc rp wr y0 = (1, [.i q]) := q4
  rw [e]
  have : isW wr (gi y0 2) = true := xho.2 ⟨q, q1, q2⟩
  rw [this]
  simp [Nat.beq, gi_z]
 ·have e : xds f base fc rp wr y0 = (3, [.i 0, .i wr.length]) := q4
  rw [e]
  have : isW wr (gi y0 2) = false := by
   rw [Bool.eq_false_iff]
   intro h
   obtain ⟨q, hq, h2⟩ := xho.1 h
   rw [q3 q hq] at h2
   cases h2
  rw [this]
  simp [Nat.beq]
noncomputable def bxE (r : List Int) : Int := xeQ (r.getD 0 0) (r.getD 1 0) (r.getD 2 0) (r.getD 3 0) (r.getD 4 0) (r.getD 5 0) (r.getD 6 0) (r.getD 7 0) (r.getD 8 0) (r.getD 9 0) (r.getD 10 0) (r.getD 11 0) (r.getD 12 0)
noncomputable def bx0 (r : List Int) : Int := xeU (r.getD 0 0) (r.getD 1 0) (r.getD 2 0) (r.getD 3 0) (r.getD 4 0) (r.getD 5 0) (r.getD 6 0) (r.getD 7 0) (r.getD 8 0) (r.getD 9 0) (r.getD 10 0) (r.getD 11 0) (r.getD 12 0)
noncomputable def bx1 (r : List Int) : Int := xeT (r.getD 0 0) (r.getD 1 0) (r.getD 2 0) (r.getD 3 0) (r.getD 4 0) (r.getD 5 0) (r.getD 6 0) (r.getD 7 0) (r.getD 8 0) (r.getD 9 0) (r.getD 10 0) (r.getD 11 0) (r.getD 12 0)
noncomputable def bx2 (r : List Int) : Int := xeS (r.getD 0 0) (r.getD 1 0) (r.getD 2 0) (r.getD 3 0) (r.getD 4 0) (r.getD 5 0) (r.getD 6 0) (r.getD 7 0) (r.getD 8 0) (r.getD 9 0) (r.getD 10 0) (r.getD 11 0) (r.getD 12 0)
noncomputable def bx3 (r : List Int) : Int := xeR (r.getD 0 0) (r.getD 1 0) (r.getD 2 0) (r.getD 3 0) (r.getD 4 0) (r.getD 5 0) (r.getD 6 0) (r.getD 7 0) (r.getD 8 0) (r.getD 9 0) (r.getD 10 0) (r.getD 11 0) (r.getD 12 0)
noncomputable def bxL (r : List Int) : List Int := [bx0 r, bx1 r, bx2 r, bx3 r]
noncomputable def lf (c wr : List (List Int)) : List (List Int) → Nat → List (List Int) → Int → Int × List (List Int)
 | [], _, set, _ => (0, set)
 | r :: rs, i, set, at_ =>
  if xig at_ (r.getD 2 0) set c ≠ 0 then (xig at_ (r.getD 2 0) set c, [])
  else if isW wr i = true then lf c wr rs (i + 1) (xiv at_ (r.getD 2 0) set c) (r.getD 2 0)
  else if bxE r ≠ 0 then (bxE r, [])
  else if cutE (bxL r) (xiv at_ (r.getD 2 0) set c) ≠ 0 then (18, [])
  else lf c wr rs (i + 1) (cutL (bxL r) (xiv at_ (r.getD 2 0) set c)) (r.getD 2 0)
theorem xyk (c wr : List (List Int)) (r : List Int) (rs : List (List Int)) (i : Nat) (set : List (List Int)) (at_ : Int) : lf c wr (r :: rs) i set at_ =
  if xig at_ (r.getD 2 0) set c ≠ 0 then (xig at_ (r.getD 2 0) set c, [])
  else if isW wr i = true then lf c wr rs (i + 1) (xiv at_ (r.getD 2 0) set c) (r.getD 2 0)
  else if bxE r ≠ 0 then (bxE r, [])
  else if cutE (bxL r) (xiv at_ (r.getD 2 0) set c) ≠ 0 then (18, [])
  else lf c wr rs (i + 1) (cutL (bxL r) (xiv at_ (r.getD 2 0) set c)) (r.getD 2 0) := rfl
theorem xDt (f : Int) (base fc rp wr : List (List Int)) (hb : base.length ≤ 16) (hf : fc.length ≤ 9223372036854775807) (hr : rp.length ≤ 60) (hw : wr.length ≤ 9223372036854775806) :
  xbg f base fc rp wr ∧ xaG f base fc rp wr = (lf fc wr rp 0 base f).1 ∧ xbp f base fc rp wr = (lf fc wr rp 0 base f).2 := by
 have key := xdL (step := xcK f base fc rp wr) rp.length (fun j xs => ∃ e0 at_ set, xs = [.i e0, .i at_, .i (j : Int), .r set] ∧ lf fc wr rp 0 base f = lf fc wr (rp.drop j) j set at_)
  (fun res => (res.1 = 1 ∧ lf fc wr rp 0 base f = (gi res.2 0, [])) ∨ (res.1 = 3 ∧ lf fc wr rp 0 base f = (gi res.2 0, [])) ∨ (res.1 = 4 ∧ lf fc wr rp 0 base f = (18, [])) ∨ (res.1 = 6 ∧ lf fc wr rp 0 base f = (0, gr res.2 3)))
  (fun j xs hj ⟨e0, at_, set, e, hl⟩ => by
   subst e
   rw [xhE hj] at hl
   rw [xyk] at hl
   obtain ⟨m1, m2, m3⟩ := xDq at_ ((rp.getD j []).getD 2 0) set fc hf
   obtain ⟨l1, l2⟩ := xDs f base fc rp wr hw [.i e0, .i at_, .i (j : Int), .r set]
   have eg : gi [U.i e0, U.i at_, U.i (j : Int), U.r set] 2 = (j : Int) := by rw [gi_2, gi_z]
   have e_0 : xgu f base fc rp wr [U.i e0, U.i at_, U.i (j : Int), U.r set] = bxE (rp.getD j []) := by
    unfold xgu bxE; rw [eg, Int.toNat_natCast]
   have e_1 : xeG f base fc rp wr [U.i e0, U.i at_, U.i (j : Int), U.r set] = bx0 (rp.getD j []) := by
    unfold xeG bx0; rw [eg, Int.toNat_natCast]
   have e_2 : xeF f base fc rp wr [U.i e0, U.i at_, U.i (j : Int), U.r set] = bx1 (rp.getD j []) := by
    unfold xeF bx1; rw [eg, Int.toNat_natCast]
   have e_3 : xeE f base fc rp wr [U.i e0, U.i at_, U.i (j : Int), U.r set] = bx2 (rp.getD j []) := by
    unfold xeE bx2; rw [eg, Int.toNat_natCast]
   have e_4 : xeD f base fc rp wr [U.i e0, U.i at_, U.i (j : Int), U.r set] = bx3 (rp.getD j []) := by
    unfold xeD bx3; rw [eg, Int.toNat_natCast]
   obtain ⟨c1, c2, c3⟩ := xEq (bx0 (rp.getD j [])) (bx1 (rp.getD j [])) (bx2 (rp.getD j [])) (bx3 (rp.getD j [])) (xiv at_ ((rp.getD j []).getD 2 0) set fc)
   unfold xcK
   rw [l2, e_0, e_1, e_2, e_3, e_4]
   rw [xaa l1]
   simp only [gi_1, gi_2, gi_z, gr_3, gr_z, dlt hj, xaa (xa1 hj), Int.toNat_natCast, xaA (show j < 4611686018427387904 by omega), xaa m1, m2, m3, xaa c1, c2, c3]
   by_cases h1 : xig at_ ((rp.getD j []).getD 2 0) set fc = 0
   ·rw [if_neg (by simpa using h1)] at hl
    have b1 : (xig at_ ((rp.getD j []).getD 2 0) set fc != 0) = false := by rw [bne_eq_false_iff_eq]; exact h1
    rw [b1, cond_false]
    cases hW : isW wr j with
    | true =>
     rw [if_pos hW] at hl
     rw [cond_true]
     exact .inl ⟨_, rfl, _, _, _, rfl, hl⟩
    | false =>
     rw [if_neg (by rw [hW]; simp)] at hl
     rw [cond_false]
     by_cases h2 : bxE (rp.getD j []) = 0
     ·rw [if_neg (by simpa using h2)] at hl
      have b2 : (bxE (rp.getD j []) != 0) = false := by rw [bne_eq_false_iff_eq]; exact h2
      rw [b2, cond_false]
      by_cases h3 : cutE (bxL (rp.getD j [])) (xiv at_ ((rp.getD j []).getD 2 0) set fc) = 0
      ·rw [if_neg (by simpa using h3)] at hl
       have b3 : (cutE [bx0 (rp.getD j []), bx1 (rp.getD j []), bx2 (rp.getD j []), bx3 (rp.getD j [])] (xiv at_ ((rp.getD j []).getD 2 0) set fc) != 0) = false := by
        rw [bne_eq_false_iff_eq]; exact h3
       rw [b3, cond_false]
       exact .inl ⟨_, rfl, _, _, _, rfl, hl⟩
      ·rw [if_pos (by simpa using h3)] at hl
       have b3 : (cutE [bx0 (rp.getD j []), bx1 (rp.getD j []), bx2 (rp.getD j []), bx3 (rp.getD j [])] (xiv at_ ((rp.getD j []).getD 2 0) set fc) != 0) = true := by
        rw [bne_iff_ne]; exact h3
       rw [b3, cond_true]
       exact .inr ⟨3, [], rfl, .inr (.inr (.inl ⟨rfl, hl⟩))⟩
     ·rw [if_pos (by simpa using h2)] at hl
      have b2 : (bxE (rp.getD j []) != 0) = true := by rw [bne_iff_ne]; exact h2
      rw [b2, cond_true]
      exact .inr ⟨2, _, rfl, .inr (.inl ⟨rfl, by rw [hl, gi_z]⟩)⟩
   ·rw [if_pos (by simpa using h1)] at hl
    have b1 : (xig at_ ((rp.getD j []).getD 2 0) set fc != 0) = true := by rw [bne_iff_ne]; exact h1
    rw [b1, cond_true]
    exact .inr ⟨0, _, rfl, .inl ⟨rfl, by rw [hl, gi_z]⟩⟩)
  (fun xs ⟨e0, at_, set, e, hl⟩ => by
   subst e
   refine ⟨5, [.i e0, .i at_, .i rp.length, .r set], ?_, .inr (.inr (.inr ⟨rfl, ?_⟩))⟩
   ·unfold xcK
    simp only [gi_1, gi_2, gi_z, gr_3, gr_z, dnlt]
   ·rw [hl, List.drop_length, gr_3, gr_z]
    rfl)
  (xs := xfM f base fc rp wr) ⟨0, f, base, rfl, rfl⟩
 refine ⟨⟨⟨fun h => ⟨trivial, by rw [h]; rfl, trivial⟩, by unfold xcI maxLen; omega⟩, key.1⟩, ?_⟩
 unfold xaG xbp xkB xkC
 have hk : ((xaD f base fc rp wr).1 = 1 ∧ lf fc wr rp 0 base f = (gi (xaD f base fc rp wr).2 0, [])) ∨ ((xaD f base fc rp wr).1 = 3 ∧ lf fc wr rp 0 base f = (gi (xaD f base fc rp wr).2 0, [])) ∨ ((xaD f base fc rp wr).1 = 4 ∧ lf fc wr rp 0 base f = (18, [])) ∨ ((xaD f base fc rp wr).1 = 6 ∧ lf fc wr rp 0 base f = (0, gr (xaD f base fc rp wr).2 3)) := key.2
 rcases hk with ⟨h1, h2⟩ | ⟨h1, h2⟩ | ⟨h1, h2⟩ | ⟨h1, h2⟩ <;> rw [h1, h2] <;> exact ⟨rfl, rfl⟩
end Go.Proofs.YtnijhjpaplihbaaGreat
set_option linter.unusedVariables false
namespace Go.Proofs.YtnijhjpaplihbaaGreat
open Go Go.Sy
def RVr (r : List Int) : Prop := Si.RV (r.getD 0 0) (r.getD 1 0) (r.getD 2 0) (r.getD 3 0) (r.getD 4 0) (r.getD 5 0) (r.getD 6 0) (r.getD 7 0) (r.getD 8 0) (r.getD 9 0) (r.getD 10 0) (r.getD 11 0) (r.getD 12 0)
instance (r : List Int) : Decidable (RVr r) := by unfold RVr; infer_instance
theorem xAu (r : List Int) : Si.sval r = decide (RVr r) := Si.xoT _ _ _ _ _ _ _ _ _ _ _ _ _
def bxD (r : List Int) : List Int := [Si.rlo (r.getD 4 0) (r.getD 12 0) (r.getD 8 0) (r.getD 10 0), Si.rhi (r.getD 5 0) (r.getD 12 0) (r.getD 8 0) (r.getD 10 0), Si.rlo (r.getD 6 0) (r.getD 12 0) (r.getD 9 0) (r.getD 11 0), Si.rhi (r.getD 7 0) (r.getD 12 0) (r.getD 9 0) (r.getD 11 0)]
theorem xDM {r : List Int} (h : RVr r) : bxE r = 0 ∧ bxL r = bxD r ∧ VB (bxD r) := by
 rcases Si.xBO (r.getD 0 0) (r.getD 1 0) (r.getD 2 0) (r.getD 3 0) (r.getD 4 0) (r.getD 5 0) (r.getD 6 0) (r.getD 7 0) (r.getD 8 0) (r.getD 9 0) (r.getD 10 0) (r.getD 11 0) (r.getD 12 0) with ⟨_, b0, b1, b2, b3, b4⟩ | ⟨h', _⟩
 ·refine ⟨b4, ?_, ?_⟩
  ·unfold bxL bx0 bx1 bx2 bx3 bxD
   rw [b0, b1, b2, b3]
  ·unfold RVr Si.RV at h
   exact (Si.xEw h.2.2.2.2.2.1 h.2.2.2.2.1).1
 ·exact absurd h h'
structure GS (f : Int) (base fc rp : List (List Int)) : Prop where
 vl : VL base
 vc : VC fc
 f0 : 0 ≤ f ∧ f ≤ 10000000
 rv : ∀ r ∈ rp, RVr r
 ln : rp.length ≤ 60
 ts : tsB ((rp.getD 0 []).getD 3 0) f rp = true
theorem xkU (rp : List (List Int)) : xaq rp = true ↔ rp.length ≤ 60 ∧ ∀ r ∈ rp, RVr r := by
 rw [(Si.xhJ rp).2, Bool.and_eq_true, decide_eq_true_eq, List.all_eq_true]
 constructor
 ·rintro ⟨h1, h2⟩
  exact ⟨h1, fun r hr => by have := h2 r hr; rw [xAu, decide_eq_true_eq] at this; exact this⟩
 ·rintro ⟨h1, h2⟩
  exact ⟨h1, fun r hr => by rw [xAu, decide_eq_true_eq]; exact h2 r hr⟩
theorem xjh (f : Int) (base fc rp : List (List Int)) :
  (svE f base fc rp = 1 ∧ ¬ GS f base fc rp) ∨ (svE f base fc rp = 5 ∧ GS f base fc rp ∧ (xa9 rp).length < rp.length) ∨ (svE f base fc rp = 0 ∧ GS f base fc rp ∧ ¬ (xa9 rp).length < rp.length) := by
 unfold svE
 by_cases h : xaq rp = true ∧ VL base ∧ VC fc ∧ 0 ≤ f ∧ f ≤ 10000000
 ·rw [if_pos h]
  by_cases ht : tsB ((rp.getD 0 []).getD 3 0) f rp = true
  ·rw [if_pos ht]
   have g : GS f base fc rp := ⟨h.2.1, h.2.2.1, h.2.2.2, ((xkU rp).1 h.1).2, ((xkU rp).1 h.1).1, ht⟩
   by_cases hm : (xa9 rp).length < rp.length
   ·rw [if_pos hm]; exact .inr (.inl ⟨rfl, g, hm⟩)
   ·rw [if_neg hm]; exact .inr (.inr ⟨rfl, g, hm⟩)
  ·rw [if_neg ht]; exact .inl ⟨rfl, fun g => ht g.ts⟩
 ·rw [if_neg h]
  exact .inl ⟨rfl, fun g => h ⟨(xkU rp).2 ⟨g.ln, g.rv⟩, g.vl, g.vc, g.f0⟩⟩
def lg (c wr : List (List Int)) : List (List Int) → Nat → List (List Int) → Int → Int × List (List Int)
 | [], _, set, _ => (0, set)
 | r :: rs, i, set, at_ =>
  if sumE at_ (r.getD 2 0) c ≠ 0 then (sumE at_ (r.getD 2 0) c, [])
  else if ∃ b ∈ set, ¬ VB (mvF at_ (r.getD 2 0) c b) then (3, [])
  else if isW wr i = true then lg c wr rs (i + 1) (set.map (mvF at_ (r.getD 2 0) c)) (r.getD 2 0)
  else if cutP (bxD r) (set.map (mvF at_ (r.getD 2 0) c)) = [] then (18, [])
  else lg c wr rs (i + 1) (cutP (bxD r) (set.map (mvF at_ (r.getD 2 0) c))) (r.getD 2 0)
theorem xDr (c wr : List (List Int)) (r : List Int) (rs : List (List Int)) (i : Nat) (set : List (List Int)) (at_ : Int) : lg c wr (r :: rs) i set at_ =
  if sumE at_ (r.getD 2 0) c ≠ 0 then (sumE at_ (r.getD 2 0) c, [])
  else if ∃ b ∈ set, ¬ VB (mvF at_ (r.getD 2 0) c b) then (3, [])
  else if isW wr i = true then lg c wr rs (i + 1) (set.map (mvF at_ (r.getD 2 0) c)) (r.getD 2 0)
  else if cutP (bxD r) (set.map (mvF at_ (r.getD 2 0) c)) = [] then (18, [])
  else lg c wr rs (i + 1) (cutP (bxD r) (set.map (mvF at_ (r.getD 2 0) c))) (r.getD 2 0) := rfl
theorem xBf (c wr : List (List Int)) (r : List Int) (rs : List (List Int)) (i : Nat) (set : List (List Int)) (at_ : Int) :
  (sumE at_ (r.getD 2 0) c ≠ 0 ∧ lg c wr (r :: rs) i set at_ = (sumE at_ (r.getD 2 0) c, [])) ∨
  (sumE at_ (r.getD 2 0) c = 0 ∧ (∃ b ∈ set, ¬ VB (mvF at_ (r.getD 2 0) c b)) ∧ lg c wr (r :: rs) i set at_ = (3, [])) ∨
  (sumE at_ (r.getD 2 0) c = 0 ∧ (∀ b ∈ set, VB (mvF at_ (r.getD 2 0) c b)) ∧ isW wr i = true ∧ lg c wr (r :: rs) i set at_ = lg c wr rs (i + 1) (set.map (mvF at_ (r.getD 2 0) c)) (r.getD 2 0)) ∨
  (sumE at_ (r.getD 2 0) c = 0 ∧ (∀ b ∈ set, VB (mvF at_ (r.getD 2 0) c b)) ∧ isW wr i = false ∧ cutP (bxD r) (set.map (mvF at_ (r.getD 2 0) c)) = [] ∧ lg c wr (r :: rs) i set at_ = (18, [])) ∨
  (sumE at_ (r.getD 2 0) c = 0 ∧ (∀ b ∈ set, VB (mvF at_ (r.getD 2 0) c b)) ∧ isW wr i = false ∧ cutP (bxD r) (set.map (mvF at_ (r.getD 2 0) c)) ≠ [] ∧ lg c wr (r :: rs) i set at_ = lg c wr rs (i + 1) (cutP (bxD r) (set.map (mvF at_ (r.getD 2 0) c))) (r.getD 2 0)) := by
 rw [xDr]
 by_cases h1 : sumE at_ (r.getD 2 0) c = 0
 ·rw [if_neg (fun k => k h1)]
  by_cases h2 : ∃ b ∈ set, ¬ VB (mvF at_ (r.getD 2 0) c b)
  ·rw [if_pos h2]; exact .inr (.inl ⟨h1, h2, rfl⟩)
  ·rw [if_neg h2]
   have h2' : ∀ b ∈ set, VB (mvF at_ (r.getD 2 0) c b) := fun b hb => Decidable.byContradiction fun k => h2 ⟨b, hb, k⟩
   cases h3 : isW wr i with
   | true => rw [if_pos rfl]; exact .inr (.inr (.inl ⟨h1, h2', rfl, rfl⟩))
   | false =>
    rw [if_neg (by simp)]
    by_cases h4 : cutP (bxD r) (set.map (mvF at_ (r.getD 2 0) c)) = []
    ·rw [if_pos h4]; exact .inr (.inr (.inr (.inl ⟨h1, h2', rfl, h4, rfl⟩)))
    ·rw [if_neg h4]; exact .inr (.inr (.inr (.inr ⟨h1, h2', rfl, h4, rfl⟩)))
 ·rw [if_pos h1]; exact .inl ⟨h1, rfl⟩
theorem xCp (c wr : List (List Int)) : ∀ (rs : List (List Int)) (i : Nat) (set : List (List Int)) (at_ : Int), VL set → (∀ r ∈ rs, RVr r) → lf c wr rs i set at_ = lg c wr rs i set at_
 | [], _, _, _, _, _ => rfl
 | r :: rs, i, set, at_, hv, hr => by
  have hb := xDM (hr r (by simp))
  rw [xyk]
  rcases xBf c wr r rs i set at_ with ⟨h1, e⟩ | ⟨h1, h2, e⟩ | ⟨h1, h2, h3, e⟩ | ⟨h1, h2, h3, h4, e⟩ | ⟨h1, h2, h3, h4, e⟩
  ·have : xig at_ (r.getD 2 0) set c = sumE at_ (r.getD 2 0) c := by unfold xig; rw [if_neg (fun k => k hv), if_pos h1]
   rw [e, this, if_pos h1]
  ·have : xig at_ (r.getD 2 0) set c = 3 := by unfold xig; rw [if_neg (fun k => k hv), if_neg (fun k => k h1), if_pos h2]
   rw [e, this, if_pos (by decide)]
  all_goals
   have hm := xCn hv h1 h2
   have hl := (xCm hm).2.2.2
   have hv' : VL (set.map (mvF at_ (r.getD 2 0) c)) := xBS hv h2
   rw [e, if_neg (fun k => k hm), hl]
  ·rw [if_pos h3]
   exact xCp c wr rs _ _ _ hv' (fun r hr' => hr r (by simp [hr']))
  ·rw [if_neg (by rw [h3]; simp), if_neg (fun k => k hb.1), hb.2.1]
   have : cutE (bxD r) (set.map (mvF at_ (r.getD 2 0) c)) = 4 := by
    rcases xu5 (bxD r) (set.map (mvF at_ (r.getD 2 0) c)) with ⟨_, k⟩ | ⟨k, _⟩ | ⟨_, _, _, k, _⟩
    ·rcases k with k | k
     ·exact absurd hv' k
     ·exact absurd hb.2.2 k
    ·exact k
    ·exact absurd h4 k
   rw [this, if_pos (by decide)]
  ·rw [if_neg (by rw [h3]; simp), if_neg (fun k => k hb.1), hb.2.1]
   have : cutE (bxD r) (set.map (mvF at_ (r.getD 2 0) c)) = 0 ∧ cutL (bxD r) (set.map (mvF at_ (r.getD 2 0) c)) = cutP (bxD r) (set.map (mvF at_ (r.getD 2 0) c)) := by
    rcases xu5 (bxD r) (set.map (mvF at_ (r.getD 2 0) c)) with ⟨_, k⟩ | ⟨_, _, _, k⟩ | ⟨k1, _, _, _, k2⟩
    ·rcases k with k | k
     ·exact absurd hv' k
     ·exact absurd hb.2.2 k
    ·exact absurd k h4
    ·exact ⟨k1, k2⟩
   rw [this.1, if_neg (by simp), this.2]
   exact xCp c wr rs _ _ _ (xCJ hv' hb.2.2 h4) (fun r hr' => hr r (by simp [hr']))
theorem xyj (c wr : List (List Int)) : ∀ (rs : List (List Int)) (i : Nat) (set : List (List Int)) (at_ : Int), VL set → (∀ r ∈ rs, RVr r) → ((lg c wr rs i set at_).1 = 0 → VL (lg c wr rs i set at_).2) ∧ ((lg c wr rs i set at_).1 ≠ 0 → (lg c wr rs i set at_).2 = [])
 | [], _, _, _, hv, _ => ⟨fun _ => hv, fun h => absurd rfl h⟩
 | r :: rs, i, set, at_, hv, hr => by
  have hb := xDM (hr r (by simp))
  rcases xBf c wr r rs i set at_ with ⟨h1, e⟩ | ⟨h1, h2, e⟩ | ⟨h1, h2, h3, e⟩ | ⟨h1, h2, h3, h4, e⟩ | ⟨h1, h2, h3, h4, e⟩
  ·rw [e]; exact ⟨fun h => absurd h h1, fun _ => rfl⟩
  ·rw [e]; exact ⟨fun h => absurd h (by decide), fun _ => rfl⟩
  ·rw [e]; exact xyj c wr rs _ _ _ (xBS hv h2) (fun r hr' => hr r (by simp [hr']))
  ·rw [e]; exact ⟨fun h => absurd h (by decide), fun _ => rfl⟩
  ·rw [e]; exact xyj c wr rs _ _ _ (xCJ (xBS hv h2) hb.2.2 h4) (fun r hr' => hr r (by simp [hr']))
def pX (tr : List (List Int)) (i : Nat) : Int := (tr.getD i []).getD 0 0
def pY (tr : List (List Int)) (i : Nat) : Int := (tr.getD i []).getD 1 0
def xzJ (r : List Int) (x y : Int) : Prop := Si.Sees (r.getD 4 0) (r.getD 5 0) (r.getD 6 0) (r.getD 7 0) (r.getD 8 0) (r.getD 9 0) (r.getD 10 0) (r.getD 11 0) (r.getD 12 0) x x y y
instance (r : List Int) (x y : Int) : Decidable (xzJ r x y) := by unfold xzJ; infer_instance
def ck (c wr tr : List (List Int)) : List (List Int) → Nat → Int → Bool → Int × Bool
 | [], _, _, t => (0, t)
 | r :: rs, i, at_, t =>
  if allE at_ (r.getD 2 0) (pX tr i) (pY tr i) (pX tr (i + 1)) (pY tr (i + 1)) c ≠ 0 then (allE at_ (r.getD 2 0) (pX tr i) (pY tr i) (pX tr (i + 1)) (pY tr (i + 1)) c, false)
  else ck c wr tr rs (i + 1) (r.getD 2 0) (t && decide (allB at_ (r.getD 2 0) (pX tr i) (pY tr i) (pX tr (i + 1)) (pY tr (i + 1)) c) && decide (RVr r ∧ Si.Pt (pX tr (i + 1)) (pY tr (i + 1))) && (decide (xzJ r (pX tr (i + 1)) (pY tr (i + 1))) || isW wr i))
theorem xBN (c wr tr : List (List Int)) (r : List Int) (rs : List (List Int)) (i : Nat) (at_ : Int) (t : Bool) : ck c wr tr (r :: rs) i at_ t =
  if allE at_ (r.getD 2 0) (pX tr i) (pY tr i) (pX tr (i + 1)) (pY tr (i + 1)) c ≠ 0 then (allE at_ (r.getD 2 0) (pX tr i) (pY tr i) (pX tr (i + 1)) (pY tr (i + 1)) c, false)
  else ck c wr tr rs (i + 1) (r.getD 2 0) (t && decide (allB at_ (r.getD 2 0) (pX tr i) (pY tr i) (pX tr (i + 1)) (pY tr (i + 1)) c) && decide (RVr r ∧ Si.Pt (pX tr (i + 1)) (pY tr (i + 1))) && (decide (xzJ r (pX tr (i + 1)) (pY tr (i + 1))) || isW wr i)) := rfl
end Go.Proofs.YtnijhjpaplihbaaGreat
set_option linter.unusedVariables false
namespace Go.Proofs.YtnijhjpaplihbaaGreat
open Go Go.Sy
noncomputable def fE (f : Int) (base fc rp wr : List (List Int)) : Int :=
 if svE f base fc rp = 1 ∨ wB rp.length (-1) wr = false then 1 else if svE f base fc rp ≠ 0 then svE f base fc rp else (lg fc wr rp 0 base f).1
noncomputable def fL (f : Int) (base fc rp wr : List (List Int)) : List (List Int) :=
 if svE f base fc rp = 0 ∧ wB rp.length (-1) wr = true then (lg fc wr rp 0 base f).2 else []
theorem xBg {f : Int} {base fc rp : List (List Int)} (g : GS f base fc rp) (hf : fc.length ≤ 9223372036854775807) (wr : List (List Int)) (hw : wr.length ≤ 9223372036854775806) :
  xbg f base fc rp wr ∧ xaG f base fc rp wr = (lg fc wr rp 0 base f).1 ∧ xbp f base fc rp wr = (lg fc wr rp 0 base f).2 := by
 obtain ⟨h1, h2, h3⟩ := xDt f base fc rp wr g.vl.2.1 hf g.ln hw
 rw [xCp fc wr rp 0 base f g.vl g.rv] at h2 h3
 exact ⟨h1, h2, h3⟩
theorem xpC (f : Int) (base fc rp wr : List (List Int)) (h13 : Si.El13 rp) (hf : fc.length ≤ 9223372036854775807) (hw : wr.length ≤ 9223372036854775807) :
  xbx f base fc rp wr ∧ xbw f base fc rp wr = fE f base fc rp wr ∧ xcb f base fc rp wr = fL f base fc rp wr := by
 obtain ⟨v1, v2⟩ := xC4 f base fc rp h13 hf
 obtain ⟨w1, w2⟩ := xDY f base fc rp wr hw
 unfold xbx xbw xcb fE fL
 rw [v2, w2]
 rcases xjh f base fc rp with ⟨e, _⟩ | ⟨e, g, _⟩ | ⟨e, g, _⟩ <;> rw [e]
 ·exact ⟨⟨v1, fun h => (by cases h), fun h => (by cases h)⟩, rfl, rfl⟩
 ·cases hW : wB rp.length (-1) wr with
  | false => exact ⟨⟨v1, fun _ => w1, fun h => (by cases h)⟩, rfl, rfl⟩
  | true => exact ⟨⟨v1, fun _ => w1, fun _ h => (by cases h)⟩, rfl, rfl⟩
 ·cases hW : wB rp.length (-1) wr with
  | false => exact ⟨⟨v1, fun _ => w1, fun h => (by cases h)⟩, rfl, rfl⟩
  | true =>
   have hl := xAo hW
   have := g.ln
   obtain ⟨l1, l2, l3⟩ := xBg g hf wr (by omega)
   refine ⟨⟨v1, fun _ => w1, fun _ _ => l1⟩, ?_, ?_⟩
   ·exact l2
   ·exact l3
noncomputable def chX (f : Int) (base fc rp wr tr : List (List Int)) : Int × Bool :=
 if svE f base fc rp = 1 ∨ wB rp.length (-1) wr = false ∨ tr.length ≠ rp.length + 1 ∨ ∃ p ∈ tr, ¬ VP (p.getD 0 0) (p.getD 1 0) then (1, false)
 else if svE f base fc rp ≠ 0 then (svE f base fc rp, false)
 else ck fc wr tr rp 0 f (decide (inB (pX tr 0) (pY tr 0) base))
theorem xEu (f : Int) (base fc rp wr tr : List (List Int)) (ht : tr.length ≤ 61) : xay (xcN f base fc rp wr tr) (xgx f base fc rp wr tr) ∧
  decide ((bif (xbm f base fc rp wr tr).1.beq 1 then gi (xbm f base fc rp wr tr).2 0 else -1) ≥ (0 : Int)) = decide (∃ p ∈ tr, ¬ VP (p.getD 0 0) (p.getD 1 0)) := by
 have key := xa6 (step := xcN f base fc rp wr tr) tr.length (fun q => !decide (VP ((tr.getD q []).getD 0 0) ((tr.getD q []).getD 1 0))) (fun q => [.i 0, .i q]) (fun q => [.i q]) 0 2 [.i 0, .i tr.length]
  (fun q hq => by
   unfold xcN
   rw [Si.xpt]
   simp only [gi_1, gi_z, dlt hq, xaa (xa1 hq), Int.toNat_natCast, xaA (show q < 4611686018427387904 by omega)]
   rfl)
  (by
   unfold xcN
   simp only [gi_1, gi_z, dnlt])
 refine ⟨key.1, ?_⟩
 rcases key.2 with ⟨q, q1, q2, q3, q4⟩ | ⟨q3, q4⟩
 ·have e : xbm f base fc rp wr tr = (1, [.i q]) := q4
  rw [e, decide_eq_true (show ∃ p ∈ tr, ¬ VP (p.getD 0 0) (p.getD 1 0) from ⟨_, xaW q1, by simpa using q2⟩)]
  simp [Nat.beq, gi_z]
 ·have e : xbm f base fc rp wr tr = (3, [.i 0, .i tr.length]) := q4
  rw [e, decide_eq_false (show ¬ ∃ p ∈ tr, ¬ VP (p.getD 0 0) (p.getD 1 0) from fun ⟨p, hp, h⟩ => by
   obtain ⟨q, hq, rfl⟩ := xe1 hp
   exact h (by simpa using q3 q hq))]
  simp [Nat.beq]
theorem xEs (f : Int) (base fc rp wr tr : List (List Int)) (hw : wr.length ≤ 9223372036854775806) (y0 : List U) :
  xay (xdB f base fc rp wr tr y0) (xia f base fc rp wr tr y0) ∧
  decide ((bif (xg7 f base fc rp wr tr y0).1.beq 1 then gi (xg7 f base fc rp wr tr y0).2 0 else -1) ≥ (0 : Int)) = isW wr (gi y0 4) := by
 have key := xa6 (step := xdB f base fc rp wr tr y0) wr.length (fun q => gi y0 4 == (wr.getD q []).getD 0 0) (fun q => [.i 0, .i q]) (fun q => [.i q]) 0 2 [.i 0, .i wr.length]
  (fun q hq => by
   unfold xdB
   simp only [gi_1, gi_z, dlt hq, xaa (xa1 hq), Int.toNat_natCast, xfW (show q < 9223372036854775807 by omega)])
  (by
   unfold xdB
   simp only [gi_1, gi_z, dnlt])
 refine ⟨key.1, ?_⟩
 rcases key.2 with ⟨q, q1, q2, q3, q4⟩ | ⟨q3, q4⟩
 ·have e : xg7 f base fc rp wr tr y0 = (1, [.i q]) := q4
  rw [e]
  have : isW wr (gi y0 4) = true := xho.2 ⟨q, q1, q2⟩
  rw [this]
  simp [Nat.beq, gi_z]
 ·have e : xg7 f base fc rp wr tr y0 = (3, [.i 0, .i wr.length]) := q4
  rw [e]
  have : isW wr (gi y0 4) = false := by
   rw [Bool.eq_false_iff]
   intro h
   obtain ⟨q, hq, h2⟩ := xho.1 h
   rw [q3 q hq] at h2
   cases h2
  rw [this]
  simp [Nat.beq]
theorem xEt {f : Int} {base fc rp wr tr : List (List Int)} (hr : ∀ r ∈ rp, RVr r) (hl : rp.length ≤ 60) (ht : tr.length = rp.length + 1) (hf : fc.length ≤ 9223372036854775807) (hw : wr.length ≤ 9223372036854775806) :
  xay (xcM f base fc rp wr tr) (xeO f base fc rp wr tr) ∧
  (((xbS f base fc rp wr tr).1 = 1 ∧ ck fc wr tr rp 0 f (decide (inB (pX tr 0) (pY tr 0) base)) = (gi (xbS f base fc rp wr tr).2 0, false) ∧ gi (xbS f base fc rp wr tr).2 0 ≠ 0) ∨
   ((xbS f base fc rp wr tr).1 = 3 ∧ ck fc wr tr rp 0 f (decide (inB (pX tr 0) (pY tr 0) base)) = (0, gb (xbS f base fc rp wr tr).2 2))) := by
 refine xdL (step := xcM f base fc rp wr tr) rp.length (fun j xs => ∃ b0 e0 t at_, xs = [.b b0, .i e0, .b t, .i at_, .i (j : Int)] ∧ ck fc wr tr rp 0 f (decide (inB (pX tr 0) (pY tr 0) base)) = ck fc wr tr (rp.drop j) j at_ t)
  (fun res => (res.1 = 1 ∧ ck fc wr tr rp 0 f (decide (inB (pX tr 0) (pY tr 0) base)) = (gi res.2 0, false) ∧ gi res.2 0 ≠ 0) ∨ (res.1 = 3 ∧ ck fc wr tr rp 0 f (decide (inB (pX tr 0) (pY tr 0) base)) = (0, gb res.2 2)))
  (fun j xs hj ⟨b0, e0, t, at_, e, hk⟩ => ?_) (fun xs ⟨b0, e0, t, at_, e, hk⟩ => ?_) (xs := xeO f base fc rp wr tr) ⟨false, 0, _, f, rfl, ?_⟩
 ·subst e
  rw [xhE hj, xBN] at hk
  have hR := hr _ (xaW hj)
  have hj1 : (j : Int) + 1 = ((j + 1 : Nat) : Int) := rfl
  have w1 := xaA (show j < 4611686018427387904 by omega)
  obtain ⟨a1, a2, a3⟩ := xBR at_ ((rp.getD j []).getD 2 0) (pX tr j) (pY tr j) (pX tr (j + 1)) (pY tr (j + 1)) fc hf
  obtain ⟨l1, l2⟩ := xEs f base fc rp wr tr hw [.b b0, .i e0, .b t, .i at_, .i (j : Int)]
  have eg : gi [U.b b0, U.i e0, U.b t, U.i at_, U.i (j : Int)] 4 = (j : Int) := by rw [gi_4, gi_z]
  have eg3 : gi [U.b b0, U.i e0, U.b t, U.i at_, U.i (j : Int)] 3 = at_ := by rw [gi_3, gi_z]
  have e_0 : xjq f base fc rp wr tr [.b b0, .i e0, .b t, .i at_, .i (j : Int)] = allE at_ ((rp.getD j []).getD 2 0) (pX tr j) (pY tr j) (pX tr (j + 1)) (pY tr (j + 1)) fc := by
   unfold xjq; rw [eg, eg3, w1, Int.toNat_natCast, Int.toNat_natCast]; exact a2
  have e_1 : xjp f base fc rp wr tr [.b b0, .i e0, .b t, .i at_, .i (j : Int)] = if RVr (rp.getD j []) ∧ Si.Pt (pX tr (j + 1)) (pY tr (j + 1)) then 0 else 1 := by
   unfold xjp; rw [eg, w1, Int.toNat_natCast, Int.toNat_natCast]; exact Si.xAi _ _ _ _ _ _ _ _ _ _ _ _ _ _ _
  unfold xcM
  rw [l2, e_0, e_1]
  simp only [eg, eg3]
  rw [xaa (fun _ _ => l1)]
  rw [Si.xAj]
  simp only [gb_z, gb_2, gb_1, gi_1, gi_z, dlt hj, xaa (xa1 hj), w1, Int.toNat_natCast, xaa (xa1 (show j < tr.length by omega)), xaa (xa1 (show j + 1 < tr.length by omega))]
  have a1' : xdF at_ ((rp.getD j []).getD 2 0) ((tr.getD j []).getD 0 0) ((tr.getD j []).getD 1 0) ((tr.getD (j + 1) []).getD 0 0) ((tr.getD (j + 1) []).getD 1 0) fc := a1
  have a3' : xe3 at_ ((rp.getD j []).getD 2 0) ((tr.getD j []).getD 0 0) ((tr.getD j []).getD 1 0) ((tr.getD (j + 1) []).getD 0 0) ((tr.getD (j + 1) []).getD 1 0) fc = _ := a3
  rw [xaa a1', a3']
  by_cases h1 : allE at_ ((rp.getD j []).getD 2 0) (pX tr j) (pY tr j) (pX tr (j + 1)) (pY tr (j + 1)) fc = 0
  ·rw [if_neg (fun k => k h1)] at hk
   have b1 : (allE at_ ((rp.getD j []).getD 2 0) (pX tr j) (pY tr j) (pX tr (j + 1)) (pY tr (j + 1)) fc != 0) = false := by rw [bne_eq_false_iff_eq]; exact h1
   rw [b1, cond_false]
   refine .inl ⟨_, rfl, _, _, _, _, rfl, ?_⟩
   rw [hk]
   congr 1
   by_cases h5 : RVr (rp.getD j []) ∧ Si.Pt (pX tr (j + 1)) (pY tr (j + 1))
   ·rw [if_pos h5, decide_eq_true h5]
    have : decide (Si.RV ((rp.getD j []).getD 0 0) ((rp.getD j []).getD 1 0) ((rp.getD j []).getD 2 0) ((rp.getD j []).getD 3 0) ((rp.getD j []).getD 4 0) ((rp.getD j []).getD 5 0) ((rp.getD j []).getD 6 0) ((rp.getD j []).getD 7 0) ((rp.getD j []).getD 8 0) ((rp.getD j []).getD 9 0) ((rp.getD j []).getD 10 0) ((rp.getD j []).getD 11 0) ((rp.getD j []).getD 12 0) ∧ Si.Pt ((tr.getD (j + 1) []).getD 0 0) ((tr.getD (j + 1) []).getD 1 0) ∧ Si.Sees ((rp.getD j []).getD 4 0) ((rp.getD j []).getD 5 0) ((rp.getD j []).getD 6 0) ((rp.getD j []).getD 7 0) ((rp.getD j []).getD 8 0) ((rp.getD j []).getD 9 0) ((rp.getD j []).getD 10 0) ((rp.getD j []).getD 11 0) ((rp.getD j []).getD 12 0) ((tr.getD (j + 1) []).getD 0 0) ((tr.getD (j + 1) []).getD 0 0) ((tr.getD (j + 1) []).getD 1 0) ((tr.getD (j + 1) []).getD 1 0)) = decide (xzJ (rp.getD j []) (pX tr (j + 1)) (pY tr (j + 1))) := by
     rw [decide_eq_decide]
     exact ⟨fun k => k.2.2, fun k => ⟨h5.1, h5.2, k⟩⟩
    rw [this]
    rfl
   ·rw [if_neg h5, decide_eq_false h5]
    simp
  ·rw [if_pos h1] at hk
   have b1 : (allE at_ ((rp.getD j []).getD 2 0) (pX tr j) (pY tr j) (pX tr (j + 1)) (pY tr (j + 1)) fc != 0) = true := by rw [bne_iff_ne]; exact h1
   rw [b1, cond_true]
   exact .inr ⟨0, _, rfl, .inl ⟨rfl, by rw [hk, gi_z], by rw [gi_z]; exact h1⟩⟩
 ·subst e
  refine ⟨2, [.b b0, .i e0, .b t, .i at_, .i rp.length], ?_, .inr ⟨rfl, ?_⟩⟩
  ·unfold xcM
   simp only [gb_z, gb_2, gb_1, gi_4, gi_3, gi_1, gi_z, dnlt]
  ·rw [hk, List.drop_length, gb_2, gb_z]
   rfl
 ·rw [(xEh _ _ base).2.2]
  rfl
theorem xzs (f : Int) (base fc rp wr tr : List (List Int)) (h13 : Si.El13 rp) (hf : fc.length ≤ 9223372036854775807) (hw : wr.length ≤ 9223372036854775807) :
  xdc f base fc rp wr tr ∧ xcP f base fc rp wr tr = (chX f base fc rp wr tr).1 ∧ xb3 f base fc rp wr tr = (chX f base fc rp wr tr).2 := by
 obtain ⟨v1, v2⟩ := xC4 f base fc rp h13 hf
 obtain ⟨w1, w2⟩ := xDY f base fc rp wr hw
 unfold xdc xcP xb3 xpW xpX chX
 rw [v2, w2]
 have main : ∀ e : Int, GS f base fc rp → (e = 5 ∨ e = 0) →
   (((e == (1 : Int)) = false → xbM f base fc rp wr) ∧
   ((e == (1 : Int) || !wB rp.length (-1) wr || (tr.length : Int) != IntKind.i64.wrap ((rp.length : Int) + 1)) = false → xay (xcN f base fc rp wr tr) (xgx f base fc rp wr tr)) ∧
   ((e == (1 : Int) || !wB rp.length (-1) wr || (tr.length : Int) != IntKind.i64.wrap ((rp.length : Int) + 1) || decide ((bif (xbm f base fc rp wr tr).1.beq 1 then gi (xbm f base fc rp wr tr).2 0 else -1) ≥ (0 : Int))) = false →
    (e != (0 : Int)) = false → inR 0 tr ∧ inR 0 tr ∧ xgP ((tr.getD (Int.toNat 0) []).getD 0 0) ((tr.getD (Int.toNat 0) []).getD 1 0) base ∧
     ((xd2 ((tr.getD (Int.toNat 0) []).getD 0 0) ((tr.getD (Int.toNat 0) []).getD 1 0) base != (0 : Int)) = false → xay (xcM f base fc rp wr tr) (xeO f base fc rp wr tr)))) ∧
   (bif e == (1 : Int) || !wB rp.length (-1) wr || (tr.length : Int) != IntKind.i64.wrap ((rp.length : Int) + 1) || decide ((bif (xbm f base fc rp wr tr).1.beq 1 then gi (xbm f base fc rp wr tr).2 0 else -1) ≥ (0 : Int)) then (1 : Int)
    else bif e != (0 : Int) then e else bif xd2 ((tr.getD (Int.toNat 0) []).getD 0 0) ((tr.getD (Int.toNat 0) []).getD 1 0) base != (0 : Int) then xd2 ((tr.getD (Int.toNat 0) []).getD 0 0) ((tr.getD (Int.toNat 0) []).getD 1 0) base
     else bif (xbS f base fc rp wr tr).1.beq 1 then gi (xbS f base fc rp wr tr).2 0 else 0) =
    (if e = 1 ∨ wB rp.length (-1) wr = false ∨ tr.length ≠ rp.length + 1 ∨ ∃ p ∈ tr, ¬ VP (p.getD 0 0) (p.getD 1 0) then (1, false) else if e ≠ 0 then (e, false) else ck fc wr tr rp 0 f (decide (inB (pX tr 0) (pY tr 0) base))).1 ∧
   (bif e == (1 : Int) || !wB rp.length (-1) wr || (tr.length : Int) != IntKind.i64.wrap ((rp.length : Int) + 1) || decide ((bif (xbm f base fc rp wr tr).1.beq 1 then gi (xbm f base fc rp wr tr).2 0 else -1) ≥ (0 : Int)) then false
    else bif e != (0 : Int) then false else bif xd2 ((tr.getD (Int.toNat 0) []).getD 0 0) ((tr.getD (Int.toNat 0) []).getD 1 0) base != (0 : Int) then false
     else bif (xbS f base fc rp wr tr).1.beq 1 then false else gb (xbS f base fc rp wr tr).2 2) =
    (if e = 1 ∨ wB rp.length (-1) wr = false ∨ tr.length ≠ rp.length + 1 ∨ ∃ p ∈ tr, ¬ VP (p.getD 0 0) (p.getD 1 0) then (1, false) else if e ≠ 0 then (e, false) else ck fc wr tr rp 0 f (decide (inB (pX tr 0) (pY tr 0) base))).2 := fun e g he => by
  have hl := g.ln
  have wl : IntKind.i64.wrap ((rp.length : Int) + 1) = ((rp.length + 1 : Nat) : Int) := xaA (by omega)
  have e1 : (e == (1 : Int)) = false := by rcases he with rfl | rfl <;> rfl
  have e1' : ¬ e = 1 := by rcases he with rfl | rfl <;> decide
  rw [wl, e1, Bool.false_or]
  cases hW : wB rp.length (-1) wr with
  | false =>
   rw [if_pos (.inr (.inl rfl))]
   exact ⟨⟨fun _ => w1, fun h => (by cases h), fun h => (by cases h)⟩, rfl, rfl⟩
  | true =>
   have hwl : wr.length ≤ 9223372036854775806 := by have := xAo hW; omega
   rw [Bool.not_true, Bool.false_or]
   by_cases ht : tr.length = rp.length + 1
   ·have b1 : ((tr.length : Int) != ((rp.length + 1 : Nat) : Int)) = false := by rw [bne_eq_false_iff_eq, ht]
    obtain ⟨l1, l2⟩ := xEu f base fc rp wr tr (by omega)
    rw [b1, Bool.false_or, l2]
    by_cases hp : ∃ p ∈ tr, ¬ VP (p.getD 0 0) (p.getD 1 0)
    ·rw [if_pos (.inr (.inr (.inr hp))), decide_eq_true hp]
     exact ⟨⟨fun _ => w1, fun _ => l1, fun h => (by cases h)⟩, rfl, rfl⟩
    ·rw [if_neg (fun k => by
     rcases k with k | k | k | k
     ·exact e1' k
     ·cases k
     ·exact k ht
     ·exact hp k), decide_eq_false hp, cond_false, cond_false]
     rcases he with rfl | rfl
     ·exact ⟨⟨fun _ => w1, fun _ => l1, fun _ h => (by cases h)⟩, rfl, rfl⟩
     ·have hr0 : inR (0 : Int) tr := by unfold inR; omega
      obtain ⟨c1, c2⟩ := xEt (base := base) (f := f) g.rv hl ht hf hwl
      obtain ⟨i1, i2, i3⟩ := xEh (pX tr 0) (pY tr 0) base
      have i4 : inE (pX tr 0) (pY tr 0) base = 0 := by
       unfold inE
       rw [if_neg]
       rintro (k | k)
       ·exact k g.vl
       ·exact hp ⟨_, xaW (show 0 < tr.length by omega), k⟩
      have i2' : xd2 ((tr.getD (Int.toNat 0) []).getD 0 0) ((tr.getD (Int.toNat 0) []).getD 1 0) base = 0 := i2.trans i4
      rw [i2']
      refine ⟨⟨fun _ => w1, fun _ => l1, fun _ _ => ⟨hr0, hr0, i1, fun _ => c1⟩⟩, ?_⟩
      rcases c2 with ⟨k1, k2, k3⟩ | ⟨k1, k2⟩
      ·rw [k1, if_neg (by simp), k2]; exact ⟨rfl, rfl⟩
      ·rw [k1, if_neg (by simp), k2]; exact ⟨rfl, rfl⟩
   ·have b1 : ((tr.length : Int) != ((rp.length + 1 : Nat) : Int)) = true := by rw [bne_iff_ne]; omega
    rw [b1, Bool.true_or, if_pos (.inr (.inr (.inl ht)))]
    exact ⟨⟨fun _ => w1, fun h => (by cases h), fun h => (by cases h)⟩, rfl, rfl⟩
 rcases xjh f base fc rp with ⟨e, _⟩ | ⟨e, g, _⟩ | ⟨e, g, _⟩ <;> rw [e]
 ·rw [if_pos (.inl rfl)]
  exact ⟨⟨v1, fun h => (by cases h), fun h => (by cases h), fun h => (by cases h)⟩, rfl, rfl⟩
 ·obtain ⟨m1, m2, m3⟩ := main 5 g (.inl rfl)
  exact ⟨⟨v1, m1⟩, m2, m3⟩
 ·obtain ⟨m1, m2, m3⟩ := main 0 g (.inr rfl)
  exact ⟨⟨v1, m1⟩, m2, m3⟩
end Go.Proofs.YtnijhjpaplihbaaGreat
