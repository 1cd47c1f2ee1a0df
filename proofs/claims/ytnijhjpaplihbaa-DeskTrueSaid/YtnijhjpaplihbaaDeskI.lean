/-
  DeskTrue, as far as what the functions compute.
-/
import Derived.Test.YtnijhjpaplihbaaDeskH
import Derived.Test.YtnijhjpaplihbaaSyH
set_option linter.unusedVariables false
set_option maxRecDepth 100000
namespace Go.Proofs.Ytnijhjpaplihbaa
open Go Go.Sy

theorem rowLe {W : World} {own : Bool} {e : TypeId} {k : Nat} {v : Value} {n : Nat} {vs : List Value} (h : RowOk W own e k v n vs) : n ≤ 9223372036854775807 := by
  obtain ⟨a, c, _, h1, h2⟩ := h.reads.is
  unfold maxLen at h2
  omega
theorem chx_bool {f : Int} {base fc rp wr tr : List (List Int)} (h : (chX f base fc rp wr tr).1 ≠ 0) : (chX f base fc rp wr tr).2 = false := by
  unfold chX at h ⊢
  split
  · rfl
  · rename_i h1
    rw [if_neg h1] at h
    split
    · rfl
    · rename_i h2
      rw [if_neg h2] at h
      exact ck_bool _ _ _ _ h
theorem told_fE {f : Int} {base fc rp wr tr : List (List Int)} (T : Told f base fc rp wr tr) : fE f base fc rp wr = (lg fc wr rp 0 base f).1 ∧ fL f base fc rp wr = (lg fc wr rp 0 base f).2 := by
  unfold fE fL
  rw [T.sv, T.wb, if_neg (by simp), if_neg (by simp), if_pos (by simp)]
  exact ⟨rfl, rfl⟩
theorem told_in {f : Int} {base fc rp wr tr : List (List Int)} (T : Told f base fc rp wr tr) :
    (lg fc wr rp 0 base f).1 = 3 ∨ ((lg fc wr rp 0 base f).1 = 0 ∧ VL (lg fc wr rp 0 base f).2 ∧ VP (pX tr rp.length) (pY tr rp.length) ∧ ∃ b ∈ (lg fc wr rp 0 base f).2, HB (pX tr rp.length) (pY tr rp.length) b) := by
  have h := tl_lg rp 0 base f T.gs.rv T.tl T.p0
  have hp := tl_vp rp 0 f T.tl T.v0
  rw [Nat.zero_add] at h hp
  rcases h with h | ⟨h1, h2⟩
  · exact .inl h
  · exact .inr ⟨h1, (lg_vl fc wr rp 0 base f T.gs.vl T.gs.rv).1 h1, hp, h2⟩
/-- The last place. -/
theorem last_ix {tr : List (List Int)} {n : Nat} (h : tr.length = n + 1) (hn : n ≤ 60) : IntKind.i64.wrap ((tr.length : Int) - 1) = (n : Int) := by
  rw [h, i64_wrap (by omega)]
  omega
theorem deskTrue_ok (f : Int) (base fc rp wr tr : List (List Int)) (h13 : Si.El13 rp) (hf : fc.length ≤ 9223372036854775807) (hw : wr.length ≤ 9223372036854775807) :
    law25_DeskTrue_0 f base fc rp wr tr = true ∧ law25_DeskTrue_pre f base fc rp wr tr := by
  obtain ⟨hh, hp⟩ := head_ok
  obtain ⟨c1, c2, c3⟩ := check_is f base fc rp wr tr h13 hf hw
  obtain ⟨f1, f2, f3⟩ := follow_is f base fc rp wr h13 hf hw
  unfold law25_DeskTrue_0 law25_DeskTrue_pre law25_DeskTrue_s0
  rw [c2, c3, f2, f3, hh]
  cases hX : (chX f base fc rp wr tr).2 with
  | false =>
    rw [Bool.not_false, Bool.or_true, cond_true]
    exact ⟨rfl, hp, c1, fun h => (by cases h)⟩
  | true =>
    have T := told_of hX
    have h0 : (chX f base fc rp wr tr).1 = 0 := Decidable.byContradiction fun k => by rw [chx_bool k] at hX; cases hX
    obtain ⟨g1, g2⟩ := told_fE T
    have e0 : ((tr.length : Int) == 0) = false := by rw [beq_eq_false_iff_ne]; have := T.tn; omega
    have z0 : ((0 : Int) != 0) = false := rfl
    rw [h0, g1, g2, e0, Bool.not_true, z0, Bool.or_false, cond_false, Bool.or_false]
    have li := last_ix T.tn T.gs.ln
    rw [li, Int.toNat_natCast]
    have hr : inR (rp.length : Int) tr := inR_of (by have := T.tn; omega)
    obtain ⟨i1, i2, i3⟩ := in_is (pX tr rp.length) (pY tr rp.length) (lg fc wr rp 0 base f).2
    refine ⟨?_, hp, c1, fun _ => ⟨f1, fun _ => ⟨hr, hr, i1⟩⟩⟩
    rcases told_in T with h | ⟨h1, h2, h3, h4⟩
    · rw [h]; rfl
    · have e1 : inE (pX tr rp.length) (pY tr rp.length) (lg fc wr rp 0 base f).2 = 0 := by
        unfold inE
        rw [if_neg (fun k => by rcases k with k | k; exact k h2; exact k h3)]
      have j2 : drift_In_1 ((tr.getD rp.length []).getD 0 0) ((tr.getD rp.length []).getD 1 0) (lg fc wr rp 0 base f).2 = 0 := i2.trans e1
      have j3 : drift_In_0 ((tr.getD rp.length []).getD 0 0) ((tr.getD rp.length []).getD 1 0) (lg fc wr rp 0 base f).2 = true := i3.trans (decide_eq_true ⟨e1, h4⟩)
      rw [h1, j2, j3]
      rfl
end Go.Proofs.Ytnijhjpaplihbaa
