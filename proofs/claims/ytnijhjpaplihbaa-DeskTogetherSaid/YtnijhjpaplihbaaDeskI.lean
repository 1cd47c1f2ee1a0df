/- Several texts in one (wip/merge.py): XDeskI XDeskJ. -/
import Derived.Test.YtnijhjpaplihbaaDeskH
import Derived.Test.YtnijhjpaplihbaaSyH
/-!
  DeskTrue, as far as what the functions compute.
-/
set_option linter.unusedVariables false
set_option maxRecDepth 100000
set_option linter.unusedSimpArgs false
set_option linter.unusedSectionVars false
namespace Go.Proofs.Ytnijhjpaplihbaa
open Go Go.Sy

theorem rowLe {W : World} {own : Bool} {e : TypeId} {k : Nat} {v : Value} {n : Nat} {vs : List Value} (h : RowOk W own e k v n vs) : n ≤ 9223372036854775807 := by
  obtain ⟨a, c, _, h1, h2⟩ := h.reads.is
  unfold maxLen at h2
  omega
theorem chx_bool {f : Int} {base fc rp wr tr : List (List Int)} (h : (chX f base fc rp wr tr).1 ≠ 0) : (chX f base fc rp wr tr).2 = false := by
  unfold chX at h ⊢
  split
  · rfl
  · rename_i h1
    rw [if_neg h1] at h
    split
    · rfl
    · rename_i h2
      rw [if_neg h2] at h
      exact ck_bool _ _ _ _ h
theorem told_fE {f : Int} {base fc rp wr tr : List (List Int)} (T : Told f base fc rp wr tr) : fE f base fc rp wr = (lg fc wr rp 0 base f).1 ∧ fL f base fc rp wr = (lg fc wr rp 0 base f).2 := by
  unfold fE fL
  rw [T.sv, T.wb, if_neg (by simp), if_neg (by simp), if_pos (by simp)]
  exact ⟨rfl, rfl⟩
theorem told_in {f : Int} {base fc rp wr tr : List (List Int)} (T : Told f base fc rp wr tr) :
    (lg fc wr rp 0 base f).1 = 3 ∨ ((lg fc wr rp 0 base f).1 = 0 ∧ VL (lg fc wr rp 0 base f).2 ∧ VP (pX tr rp.length) (pY tr rp.length) ∧ ∃ b ∈ (lg fc wr rp 0 base f).2, HB (pX tr rp.length) (pY tr rp.length) b) := by
  have h := tl_lg rp 0 base f T.gs.rv T.tl T.p0
  have hp := tl_vp rp 0 f T.tl T.v0
  rw [Nat.zero_add] at h hp
  rcases h with h | ⟨h1, h2⟩
  · exact .inl h
  · exact .inr ⟨h1, (lg_vl fc wr rp 0 base f T.gs.vl T.gs.rv).1 h1, hp, h2⟩
/-- The last place. -/
theorem last_ix {tr : List (List Int)} {n : Nat} (h : tr.length = n + 1) (hn : n ≤ 60) : IntKind.i64.wrap ((tr.length : Int) - 1) = (n : Int) := by
  rw [h, i64_wrap (by omega)]
  omega
theorem deskTrue_ok (f : Int) (base fc rp wr tr : List (List Int)) (h13 : Si.El13 rp) (hf : fc.length ≤ 9223372036854775807) (hw : wr.length ≤ 9223372036854775807) :
    law25_DeskTrue_0 f base fc rp wr tr = true ∧ law25_DeskTrue_pre f base fc rp wr tr := by
  obtain ⟨hh, hp⟩ := head_ok
  obtain ⟨c1, c2, c3⟩ := check_is f base fc rp wr tr h13 hf hw
  obtain ⟨f1, f2, f3⟩ := follow_is f base fc rp wr h13 hf hw
  unfold law25_DeskTrue_0 law25_DeskTrue_pre law25_DeskTrue_s0
  rw [c2, c3, f2, f3, hh]
  cases hX : (chX f base fc rp wr tr).2 with
  | false =>
    rw [Bool.not_false, Bool.or_true, cond_true]
    exact ⟨rfl, hp, c1, fun h => (by cases h)⟩
  | true =>
    have T := told_of hX
    have h0 : (chX f base fc rp wr tr).1 = 0 := Decidable.byContradiction fun k => by rw [chx_bool k] at hX; cases hX
    obtain ⟨g1, g2⟩ := told_fE T
    have e0 : ((tr.length : Int) == 0) = false := by rw [beq_eq_false_iff_ne]; have := T.tn; omega
    have z0 : ((0 : Int) != 0) = false := rfl
    rw [h0, g1, g2, e0, Bool.not_true, z0, Bool.or_false, cond_false, Bool.or_false]
    have li := last_ix T.tn T.gs.ln
    rw [li, Int.toNat_natCast]
    have hr : inR (rp.length : Int) tr := inR_of (by have := T.tn; omega)
    obtain ⟨i1, i2, i3⟩ := in_is (pX tr rp.length) (pY tr rp.length) (lg fc wr rp 0 base f).2
    refine ⟨?_, hp, c1, fun _ => ⟨f1, fun _ => ⟨hr, hr, i1⟩⟩⟩
    rcases told_in T with h | ⟨h1, h2, h3, h4⟩
    · rw [h]; rfl
    · have e1 : inE (pX tr rp.length) (pY tr rp.length) (lg fc wr rp 0 base f).2 = 0 := by
        unfold inE
        rw [if_neg (fun k => by rcases k with k | k; exact k h2; exact k h3)]
      have j2 : drift_In_1 ((tr.getD rp.length []).getD 0 0) ((tr.getD rp.length []).getD 1 0) (lg fc wr rp 0 base f).2 = 0 := i2.trans e1
      have j3 : drift_In_0 ((tr.getD rp.length []).getD 0 0) ((tr.getD rp.length []).getD 1 0) (lg fc wr rp 0 base f).2 = true := i3.trans (decide_eq_true ⟨e1, h4⟩)
      rw [h1, j2, j3]
      rfl
end Go.Proofs.Ytnijhjpaplihbaa

/-!
  DeskMore, as far as what the functions compute; the sets that the laws make.
-/
set_option linter.unusedVariables false
set_option maxRecDepth 100000
set_option linter.unusedSimpArgs false
set_option linter.unusedSectionVars false
namespace Go.Proofs.Ytnijhjpaplihbaa
open Go Go.Sy

theorem isW_any (l : List (List Int)) (n : Int) : isW l n = l.any fun e => e.getD 0 0 == n := by
  unfold isW
  congr 1
  funext e
  rw [Bool.eq_iff_iff, beq_iff_eq, beq_iff_eq]
  exact eq_comm
theorem has_is (n : Int) (l : List (List Int)) (hl : l.length ≤ 9223372036854775807) : law25_has_pre n l ∧ law25_has_0 n l = isW l n := by
  have key := loop_search (step := law25_has_l0_step n l) l.length (fun q => (l.getD q []).getD 0 0 == n) (fun q => [.b false, .i q]) (fun q => []) 0 2 [.b false, .i l.length]
    (fun q hq => by
      unfold law25_has_l0_step
      simp only [gi_1, gi_z, gb_z, dlt hq, guardP_pos (inR_of hq), Int.toNat_natCast, wrap_succ' (show q < 9223372036854775807 by omega)])
    (by
      unfold law25_has_l0_step
      simp only [gi_1, gi_z, gb_z, dnlt])
  refine ⟨key.1, ?_⟩
  rw [isW_any]
  unfold law25_has_0
  rcases key.2 with ⟨q, q1, q2, q3, q4⟩ | ⟨q3, q4⟩
  · have e : law25_has_l0 n l = (1, []) := q4
    rw [e, show (l.any fun e => e.getD 0 0 == n) = true from any_getD.2 ⟨q, q1, q2⟩]
    rfl
  · have e : law25_has_l0 n l = (3, [.b false, .i l.length]) := q4
    rw [e]
    have : (l.any fun e => e.getD 0 0 == n) = false := by
      rw [Bool.eq_false_iff]
      intro h
      obtain ⟨q, hq, h2⟩ := any_getD.1 h
      rw [q3 q hq] at h2
      cases h2
    rw [this]
    rfl
theorem holds_is (b : List Int) (x y : Int) : ref02_Holds_0 (b.getD 0 0) (b.getD 1 0) (b.getD 2 0) (b.getD 3 0) x y = decide (HB x y b) := by
  rw [Bool.eq_iff_iff, decide_eq_true_eq]
  unfold ref02_Holds_0 HB
  simp only [Bool.and_eq_true, decide_eq_true_eq]
  exact ⟨fun ⟨⟨a, b⟩, c, d⟩ => ⟨a, b, c, d⟩, fun ⟨a, b, c, d⟩ => ⟨⟨a, b⟩, c, d⟩⟩
theorem rhas_is (x y : Int) (l : List (List Int)) (hl : l.length ≤ 9223372036854775807) : ref23_Has_pre x y l ∧ ref23_Has_0 x y l = decide (∃ b ∈ l, HB x y b) := by
  have key := loop_search (step := ref23_Has_l0_step x y l) l.length (fun q => decide (HB x y (l.getD q []))) (fun q => [.b false, .i q]) (fun q => []) 0 2 [.b false, .i l.length]
    (fun q hq => by
      unfold ref23_Has_l0_step
      simp only [gi_1, gi_z, gb_z, dlt hq, guardP_pos (inR_of hq), Int.toNat_natCast, wrap_succ' (show q < 9223372036854775807 by omega), holds_is])
    (by
      unfold ref23_Has_l0_step
      simp only [gi_1, gi_z, gb_z, dnlt])
  refine ⟨key.1, ?_⟩
  unfold ref23_Has_0
  rcases key.2 with ⟨q, q1, q2, q3, q4⟩ | ⟨q3, q4⟩
  · have e : ref23_Has_l0 x y l = (1, []) := q4
    rw [e, decide_eq_true (show ∃ b ∈ l, HB x y b from ⟨_, getD_mem q1, by simpa using q2⟩)]
    rfl
  · have e : ref23_Has_l0 x y l = (3, [.b false, .i l.length]) := q4
    rw [e, decide_eq_false (show ¬ ∃ b ∈ l, HB x y b from fun ⟨b, hb, h⟩ => by
      obtain ⟨q, hq, rfl⟩ := getD_of_mem hb
      have := q3 q hq
      simp only [decide_eq_false_iff_not] at this
      exact this h)]
    rfl

/-! ### sets that are made -/
def selL (q : Nat → Bool) (n : Nat) : List (List Int) := ofNums (((List.range n).filter q).map fun (x : Nat) => (x : Int))
theorem sel_succ (q : Nat → Bool) (j : Nat) : selL q (j + 1) = if q j = true then selL q j ++ [[(j : Int)]] else selL q j := by
  unfold selL ofNums
  rw [List.range_succ, List.filter_append, List.map_append, List.map_append]
  cases h : q j with
  | true => rw [if_pos rfl]; simp [h]
  | false => rw [if_neg (by simp)]; simp [h]
theorem sel_len (q : Nat → Bool) (n : Nat) : (selL q n).length ≤ n := by
  unfold selL ofNums
  rw [List.length_map, List.length_map]
  exact Nat.le_trans (List.length_filter_le _ _) (by simp)
theorem sel_pw (q : Nat → Bool) (n : Nat) : ((List.range n).filter q).Pairwise (· < ·) := (List.pairwise_lt_range).filter _
theorem sel_wB (q : Nat → Bool) (n : Nat) : wB n (-1) (selL q n) = true :=
  wB_of _ n (-1) (sel_pw q n) (fun x hx => by
    have := List.mem_range.1 (List.mem_filter.1 hx).1
    omega)
theorem sel_isW (q : Nat → Bool) {n i : Nat} (h : i < n) : isW (selL q n) i = q i := by
  rw [Bool.eq_iff_iff]
  unfold isW selL ofNums
  rw [List.any_map, List.any_map, List.any_eq_true]
  constructor
  · rintro ⟨x, hx, h2⟩
    have : (i : Int) = (x : Int) := by simpa using h2
    have : i = x := by omega
    subst this
    exact (List.mem_filter.1 hx).2
  · intro h2
    exact ⟨i, List.mem_filter.2 ⟨List.mem_range.2 h, h2⟩, by simp⟩
theorem sel_one (q : Nat → Bool) (n : Nat) : ∀ e ∈ selL q n, e.length = 1 := by
  intro e he
  unfold selL ofNums at he
  obtain ⟨z, _, rfl⟩ := List.mem_map.1 he
  rfl
/-- The wrong reports matter as far as they are reports. -/
theorem lg_congr {c wr wr' : List (List Int)} : ∀ (rs : List (List Int)) (i : Nat) (set : List (List Int)) (at_ : Int), (∀ j, i ≤ j → j < i + rs.length → isW wr j = isW wr' j) → lg c wr rs i set at_ = lg c wr' rs i set at_
  | [], _, _, _, _ => rfl
  | r :: rs, i, set, at_, h => by
    rw [lg_cons, lg_cons, h i (Nat.le_refl _) (by simp)]
    have rec' := fun set => lg_congr (c := c) (wr := wr) (wr' := wr') rs (i + 1) set (r.getD 2 0) (fun j h1 h2 => h j (by omega) (by simp only [List.length_cons]; omega))
    rw [rec', rec']

/-! ### more wrong ones -/
def dom (S T : List (List Int)) : Prop := ∀ b ∈ S, ∃ b' ∈ T, WB b b'
theorem wb_mono {f u : Int} {c : List (List Int)} {p q : List Int} (h : WB p q) : WB (mvF f u c p) (mvF f u c q) := by
  have g1 := mvF_get f u c p
  have g2 := mvF_get f u c q
  unfold lo hi at g1 g2
  unfold WB at *
  omega
theorem wb_cut {b b' d : List Int} (h : WB b b') (hm : MB b d) : MB b' d ∧ WB (mtB b d) (mtB b' d) := by
  have g1 := mtB_get b d
  have g2 := mtB_get b' d
  unfold WB MB at *
  omega
theorem wb_in {b b' d : List Int} (h : WB b b') : WB (mtB b d) b' := by
  have g1 := mtB_get b d
  unfold WB at *
  omega
theorem dom_mv {S T : List (List Int)} (h : dom S T) (f u : Int) (c : List (List Int)) : dom (S.map (mvF f u c)) (T.map (mvF f u c)) := by
  intro b hb
  obtain ⟨x, hx, rfl⟩ := List.mem_map.1 hb
  obtain ⟨y, hy, hw⟩ := h x hx
  exact ⟨_, List.mem_map.2 ⟨y, hy, rfl⟩, wb_mono hw⟩
theorem dom_cut {S T : List (List Int)} (h : dom S T) (d : List Int) : dom (cutP d S) (cutP d T) := by
  intro b hb
  obtain ⟨x, hx, hm, rfl⟩ := mem_cutP.1 hb
  obtain ⟨y, hy, hw⟩ := h x hx
  obtain ⟨m, w⟩ := wb_cut hw hm
  exact ⟨_, mem_cutP.2 ⟨y, hy, m, rfl⟩, w⟩
theorem dom_in {S T : List (List Int)} (h : dom S T) (d : List Int) : dom (cutP d S) T := by
  intro b hb
  obtain ⟨x, hx, hm, rfl⟩ := mem_cutP.1 hb
  obtain ⟨y, hy, hw⟩ := h x hx
  exact ⟨y, hy, wb_in hw⟩
theorem dom_nil {S : List (List Int)} (h : dom S []) : S = [] := by
  cases S with
  | nil => rfl
  | cons a S => obtain ⟨_, k, _⟩ := h a (by simp); cases k
theorem lg_more {c wr wr' : List (List Int)} : ∀ (rs : List (List Int)) (i : Nat) (S T : List (List Int)) (at_ : Int), (∀ j, i ≤ j → j < i + rs.length → isW wr j = true → isW wr' j = true) → dom S T → (lg c wr rs i S at_).1 = 0 →
    (lg c wr' rs i T at_).1 = 3 ∨ ((lg c wr' rs i T at_).1 = 0 ∧ dom (lg c wr rs i S at_).2 (lg c wr' rs i T at_).2)
  | [], _, _, _, _, _, hd, _ => .inr ⟨rfl, hd⟩
  | r :: rs, i, S, T, at_, hw, hd, h => by
    have rec' := fun S T => lg_more (c := c) (wr := wr) (wr' := wr') rs (i + 1) S T (r.getD 2 0) (fun j h1 h2 => hw j (by omega) (by simp only [List.length_cons]; omega))
    have hi := hw i (Nat.le_refl _) (by simp)
    have hm := dom_mv hd at_ (r.getD 2 0) c
    rcases lg_step c wr' r rs i T at_ with ⟨h1, e⟩ | ⟨h1, h2, e⟩ | ⟨h1, h2, h3, e⟩ | ⟨h1, h2, h3, h4, e⟩ | ⟨h1, h2, h3, h4, e⟩ <;>
    rcases lg_step c wr r rs i S at_ with ⟨k1, e'⟩ | ⟨k1, k2, e'⟩ | ⟨k1, k2, k3, e'⟩ | ⟨k1, k2, k3, k4, e'⟩ | ⟨k1, k2, k3, k4, e'⟩ <;>
    rw [e'] at h <;> rw [e, e'] <;>
    first
    | exact absurd h k1
    | exact absurd h (by decide)
    | exact absurd k1 h1
    | exact .inl rfl
    | exact rec' _ _ hm h
    | exact rec' _ _ (dom_in hm (bxD r)) h
    | exact rec' _ _ (dom_cut hm (bxD r)) h
    | (rw [hi k3] at h3; cases h3)
    | (have := dom_cut hm (bxD r); rw [h4] at this; exact absurd (dom_nil this) k4)
theorem dom_refl (S : List (List Int)) : dom S S := fun b hb => ⟨b, hb, by unfold WB; omega⟩
theorem dom_hb {S T : List (List Int)} (h : dom S T) {x y : Int} : (∃ b ∈ S, HB x y b) → ∃ b ∈ T, HB x y b := by
  rintro ⟨b, hb, hx⟩
  obtain ⟨b', hb', hw⟩ := h b hb
  refine ⟨b', hb', ?_⟩
  unfold HB WB at *
  omega
section
variable (f k px py : Int) (base fc rp wr : List (List Int))
def moreQ (i : Nat) : Bool := isW wr i || (i : Int) == k
theorem more_l0 (hn : rp.length ≤ 12) (hw : wr.length ≤ 9223372036854775807) : loopOk (law25_DeskMore_l0_step f k px py base fc rp wr) (law25_DeskMore_l0_init f k px py base fc rp wr) ∧ gr (law25_DeskMore_l0 f k px py base fc rp wr).2 1 = selL (moreQ k wr) rp.length := by
  refine loop_for (step := law25_DeskMore_l0_step f k px py base fc rp wr) rp.length (fun j xs => xs = [.i (j : Int), .r (selL (moreQ k wr) j)]) (fun res => gr res.2 1 = selL (moreQ k wr) rp.length)
    (fun j xs hj e => ?_) (fun xs e => ?_) rfl
  · subst e
    obtain ⟨h1, h2⟩ := has_is (j : Int) wr hw
    unfold law25_DeskMore_l0_step
    simp only [gi_z, gr_1, gr_z, dlt hj, guardP_pos h1, h2]
    rw [wrap_succ (show j < 4611686018427387904 by omega)]
    have hs := sel_succ (moreQ k wr) j
    cases hq : moreQ k wr j with
    | true =>
      have hq' : (isW wr (j : Int) || (j : Int) == k) = true := hq
      rw [hq', cond_true, guardP_pos (by
        have := sel_len (moreQ k wr) j
        unfold fitsA maxLen
        simp only [List.length_cons, List.length_nil]
        omega)]
      exact .inl ⟨_, rfl, by rw [hs, if_pos hq]⟩
    | false =>
      have hq' : (isW wr (j : Int) || (j : Int) == k) = false := hq
      rw [hq', cond_false]
      exact .inl ⟨_, rfl, by rw [hs, if_neg (by rw [hq]; simp)]⟩
  · subst e
    refine ⟨2, [.i (rp.length : Int), .r (selL (moreQ k wr) rp.length)], ?_, by rw [gr_1, gr_z]⟩
    unfold law25_DeskMore_l0_step
    simp only [gi_z, gr_1, gr_z, dnlt]
theorem fE_ok {f : Int} {base fc rp wr : List (List Int)} (h : svE f base fc rp = 0) (hw : wB rp.length (-1) wr = true) : fE f base fc rp wr = (lg fc wr rp 0 base f).1 ∧ fL f base fc rp wr = (lg fc wr rp 0 base f).2 := by
  unfold fE fL
  rw [h, hw, if_neg (by simp), if_neg (by simp), if_pos (by simp)]
  exact ⟨rfl, rfl⟩
theorem fE_bad {f : Int} {base fc rp wr : List (List Int)} (h : svE f base fc rp ≠ 0 ∨ wB rp.length (-1) wr = false) : fE f base fc rp wr ≠ 0 := by
  unfold fE
  split
  · decide
  · rename_i h1
    split
    · assumption
    · rename_i h2
      rcases h with h | h
      · exact absurd h h2
      · exact absurd (.inr h) h1
theorem deskMore_ok (h13 : Si.El13 rp) (hf : fc.length ≤ 9223372036854775807) (hw : wr.length ≤ 9223372036854775807) :
    law25_DeskMore_0 f k px py base fc rp wr = true ∧ law25_DeskMore_pre f k px py base fc rp wr := by
  obtain ⟨hh, hp⟩ := head_ok
  unfold law25_DeskMore_0 law25_DeskMore_pre
  rw [hh]
  by_cases hn : rp.length ≤ 12
  · have b0 : decide ((rp.length : Int) > 12) = false := by rw [decide_eq_false_iff_not]; omega
    rw [b0, cond_false]
    obtain ⟨m1, m2⟩ := more_l0 f k px py base fc rp wr hn hw
    rw [m2]
    have hsl := sel_len (moreQ k wr) rp.length
    obtain ⟨f1, f2, f3⟩ := follow_is f base fc rp wr h13 hf hw
    obtain ⟨g1, g2, g3⟩ := follow_is f base fc rp (selL (moreQ k wr) rp.length) h13 hf (by omega)
    rw [f2, f3, g2, g3]
    -- what the two functions say
    have main : fE f base fc rp wr ≠ 0 ∨ (fE f base fc rp (selL (moreQ k wr) rp.length) = 3) ∨ (fE f base fc rp wr = 0 ∧ fE f base fc rp (selL (moreQ k wr) rp.length) = 0 ∧ dom (fL f base fc rp wr) (fL f base fc rp (selL (moreQ k wr) rp.length)) ∧ (fL f base fc rp wr).length ≤ 16 ∧ (fL f base fc rp (selL (moreQ k wr) rp.length)).length ≤ 16) := by
      rcases sv_cases f base fc rp with ⟨e, _⟩ | ⟨e, g, _⟩ | ⟨e, g, _⟩
      · exact .inl (fE_bad (.inl (by rw [e]; decide)))
      · exact .inl (fE_bad (.inl (by rw [e]; decide)))
      · cases hW : wB rp.length (-1) wr with
        | false => exact .inl (fE_bad (.inr hW))
        | true =>
          obtain ⟨x1, x2⟩ := fE_ok e hW
          obtain ⟨y1, y2⟩ := fE_ok e (sel_wB (moreQ k wr) rp.length)
          rw [x1, x2, y1, y2]
          by_cases h0 : (lg fc wr rp 0 base f).1 = 0
          · have hm := lg_more (c := fc) (wr := wr) (wr' := selL (moreQ k wr) rp.length) rp 0 base base f (fun j _ h2 h3 => by
              rw [sel_isW _ (show j < rp.length by omega)]
              unfold moreQ
              rw [h3]; rfl) (dom_refl _) h0
            rcases hm with hm | ⟨hm1, hm2⟩
            · exact .inr (.inl hm)
            · refine .inr (.inr ⟨h0, hm1, hm2, ?_, ?_⟩)
              · exact ((lg_vl fc wr rp 0 base f g.vl g.rv).1 h0).2.1
              · exact ((lg_vl fc _ rp 0 base f g.vl g.rv).1 hm1).2.1
          · exact .inl h0
    rcases main with h | h | ⟨h, h', hd, hl1, hl2⟩
    · have b : (fE f base fc rp wr != 0) = true := by rw [bne_iff_ne]; exact h
      rw [b]
      exact ⟨rfl, hp, fun _ => ⟨m1, f1, g1, fun k => (by cases k)⟩⟩
    · have b : (fE f base fc rp (selL (moreQ k wr) rp.length) != 0) = true := by rw [h]; rfl
      have b' : (fE f base fc rp (selL (moreQ k wr) rp.length) == 3) = true := by rw [h]; rfl
      rw [b, b', Bool.or_true]
      exact ⟨rfl, hp, fun _ => ⟨m1, f1, g1, fun k => (by cases k)⟩⟩
    · obtain ⟨r1, r2⟩ := rhas_is px py (fL f base fc rp wr) (by omega)
      obtain ⟨s1, s2⟩ := rhas_is px py (fL f base fc rp (selL (moreQ k wr) rp.length)) (by omega)
      rw [h, h', r2, s2]
      refine ⟨?_, hp, fun _ => ⟨m1, f1, g1, fun _ => ⟨fun _ => r1, fun _ _ => s1⟩⟩⟩
      by_cases hx : ∃ b ∈ fL f base fc rp wr, HB px py b
      · rw [decide_eq_true (dom_hb hd hx), Bool.or_true]; rfl
      · rw [decide_eq_false hx]; rfl
  · have b0 : decide ((rp.length : Int) > 12) = true := by rw [decide_eq_true_eq]; omega
    rw [b0]
    exact ⟨rfl, hp, fun h => (by cases h)⟩
end
theorem in_alls {m n : Nat} {w : List (List Int)} (h1 : ∀ e ∈ w, e.length = 1) (h2 : wB m (-1) w = true) (h3 : w.length < n) : w ∈ alls m n := mem_alls.2 ⟨w.length, h3, wB_dsets h1 h2⟩
end Go.Proofs.Ytnijhjpaplihbaa
