/-
  Say, Changed, Knew, Merge of package bitemp.
-/
import Derived.Test.YtcbgjecpnhjlpaaBitempM
set_option linter.unusedVariables false
namespace Go.Proofs.Ytcbgjecpnhjlpaa
open Go Go.Sy

/-! ### Say -/
theorem vr_snoc {l : List (List Int)} {r : List Int} (h : VR l) (hr : RO r) (hl : l.length < 200) (hk : 0 < l.length → kn (l.getD (l.length - 1) []) ≤ kn r) : VR (l ++ [r]) := by
  refine ⟨by simp; omega, fun x hx => ?_, List.pairwise_append.2 ⟨h.2.2, List.pairwise_singleton _ _, fun x hx y hy => ?_⟩⟩
  · rcases List.mem_append.1 hx with hx | hx
    · exact h.2.1 x hx
    · simp only [List.mem_singleton] at hx; rw [hx]; exact hr
  · simp only [List.mem_singleton] at hy
    subst hy
    obtain ⟨i, hi, rfl⟩ := getD_of_mem hx
    have h1 := hk (by omega)
    by_cases e : i = l.length - 1
    · rw [e]; exact h1
    · have := pairwise_getD h.2.2 (show i < l.length - 1 by omega) (by omega)
      exact Int.le_trans this h1
theorem say_is (a b c d e : Int) (l : List (List Int)) : bitemp_Say_pre a b c d e l ∧ (bitemp_Say_1 a b c d e l = 0 → VR l ∧ RO5 a b c d e ∧ bitemp_Say_0 a b c d e l = l ++ [[a, b, c, d, e]] ∧ VR (l ++ [[a, b, c, d, e]])) := by
  unfold bitemp_Say_pre bitemp_Say_1 bitemp_Say_0 bitemp_Say_s0 bitemp_Say_s1
  rw [(valid_is l).2, isRow_eq]
  by_cases h : VR l ∧ RO5 a b c d e
  · rw [decide_eq_true h.1, decide_eq_true h.2]
    have hlen := h.1.1
    have e0 : (!true || !true) = false := rfl
    simp only [e0, cond_false]
    by_cases h2 : l.length = 200
    · have e1 : ((l.length : Int) == 200) = true := by simp; omega
      rw [e1]
      exact ⟨⟨(valid_is l).1, fun _ h => (by cases h)⟩, fun h => (by cases h)⟩
    · have e1 : ((l.length : Int) == 200) = false := by simp; omega
      rw [e1, cond_false, cond_false]
      have hw : decide ((l.length : Int) > 0) = true → IntKind.i64.wrap ((l.length : Int) - 1) = ((l.length - 1 : Nat) : Int) := fun h => by
        have := of_decide_eq_true h
        rw [i64_wrap (by omega)]; omega
      have hin : decide ((l.length : Int) > 0) = true → inR (IntKind.i64.wrap ((l.length : Int) - 1)) l := fun h => by
        rw [hw h]
        have := of_decide_eq_true h
        exact inR_of (by omega)
      have hf : ∀ n : Nat, n ≤ 1000 → fitsA 40 n := fun n hn => by unfold fitsA maxLen; omega
      refine ⟨⟨(valid_is l).1, fun _ _ => ⟨hin, hin, hin, fun _ => ⟨⟨fun h => ⟨trivial, by rw [h]; rfl, trivial⟩, hf _ (by omega)⟩, hf _ (by simp; omega)⟩⟩⟩, ?_⟩
      by_cases h3 : 0 < l.length ∧ kn (l.getD (l.length - 1) []) > e
      · have e3 : decide ((l.length : Int) > 0) = true := by simp; omega
        have e4 : (decide ((l.length : Int) > 0) && decide ((l.getD (IntKind.i64.wrap ((l.length : Int) - 1)).toNat []).getD 4 0 > e)) = true := by
          rw [hw e3, Int.toNat_natCast, e3, Bool.true_and, decide_eq_true_eq]; exact h3.2
        rw [e4]
        intro h; cases h
      · have e4 : (decide ((l.length : Int) > 0) && decide ((l.getD (IntKind.i64.wrap ((l.length : Int) - 1)).toNat []).getD 4 0 > e)) = false := by
          by_cases h4 : 0 < l.length
          · have e3 : decide ((l.length : Int) > 0) = true := by simp; omega
            rw [hw e3, Int.toNat_natCast, e3, Bool.true_and, decide_eq_false_iff_not]
            exact fun h5 => h3 ⟨h4, h5⟩
          · rw [decide_eq_false (by omega)]; rfl
        rw [e4]
        refine fun _ => ⟨h.1, h.2, rfl, vr_snoc h.1 h.2 (by omega) fun h0 => ?_⟩
        show _ ≤ e
        have : ¬ kn (l.getD (l.length - 1) []) > e := fun h5 => h3 ⟨h0, h5⟩
        omega
  · have e0 : (!decide (VR l) || !decide (RO5 a b c d e)) = true := by
      cases hb : (!decide (VR l) || !decide (RO5 a b c d e)) with
      | true => rfl
      | false => simp at hb; exact absurd hb h
    rw [e0]
    exact ⟨⟨(valid_is l).1, fun h => (by cases h)⟩, fun h => (by cases h)⟩

/-! ### Changed -/
/-- The value that holds, if any. -/
def SV (l : List (List Int)) (i t k : Int) : Option Int := (HO l i t k).map va
theorem SV_congr {l : List (List Int)} {i t k k' : Int} (h : ∀ r ∈ l, it r = i → (kn r ≤ k ↔ kn r ≤ k')) : SV l i t k = SV l i t k' := by
  unfold SV
  rw [HO_congr fun r hr => ?_]
  unfold says
  by_cases e : it r = i
  · have := h r hr e
    by_cases h2 : kn r ≤ k
    · rw [decide_eq_true h2, decide_eq_true (this.1 h2)]
    · rw [decide_eq_false h2, decide_eq_false (fun h3 => h2 (this.2 h3))]
  · have : (it r == i) = false := by simp; exact e
    rw [this]; rfl
theorem HV_iff {l : List (List Int)} {i t k v : Int} : HV l i t k v ↔ SV l i t k = some v := by
  unfold HV SV
  cases HO l i t k with
  | none => simp
  | some r => simp
def ob (o : Option Int) : Bool := o.isSome
def ov (o : Option Int) : Int := o.getD 0
theorem ob_ov {o o' : Option Int} : (!(ob o == ob o') || ov o != ov o') = decide (o ≠ o') := by
  rw [Bool.eq_iff_iff, decide_eq_true_eq]
  cases o <;> cases o' <;> simp [ob, ov]
theorem gb_7 (a b c d e f g : U) (n : List (List Int)) (r : List U) : gr (a :: b :: c :: d :: e :: f :: g :: .r n :: r) 7 = n := by cases r <;> rfl
theorem gi_i1 (a : U) (n : Int) (r : List U) : gi (a :: .i n :: r) 1 = n := by cases r <;> rfl
theorem gi_i3 (a b c : U) (n : Int) (r : List U) : gi (a :: b :: c :: .i n :: r) 3 = n := by cases r <;> rfl
/-- i is the last row of its time. -/
def dn (l : List (List Int)) (j : Nat) : Prop := j + 1 = l.length ∨ kn (l.getD (j + 1) []) ≠ kn (l.getD j [])
theorem dn_exists {l : List (List Int)} (hs : l.Pairwise (fun a b => kn a ≤ kn b)) : ∀ (d j : Nat), j + d + 1 = l.length → ∃ j', j ≤ j' ∧ j' < l.length ∧ dn l j' ∧ kn (l.getD j' []) = kn (l.getD j []) := by
  intro d
  induction d with
  | zero => intro j hj; exact ⟨j, Nat.le_refl _, by omega, .inl (by omega), rfl⟩
  | succ d ih =>
    intro j hj
    by_cases h : kn (l.getD (j + 1) []) = kn (l.getD j [])
    · obtain ⟨j', h1, h2, h3, h4⟩ := ih (j + 1) (by omega)
      exact ⟨j', by omega, h2, h3, h4.trans h⟩
    · exact ⟨j, Nat.le_refl _, by omega, .inr h, rfl⟩
theorem changed_is (i t : Int) (l : List (List Int)) (hl : VR l) : (loopOk (bitemp_Changed_l0_step i t l) (bitemp_Changed_l0_init i t l)) ∧ ∃ c : List Int, gr (bitemp_Changed_l0 i t l).2 7 = ofNums c ∧ c.Pairwise (· < ·) ∧ c.length ≤ 200 ∧
    ∀ k, k ∈ c ↔ (∃ r ∈ l, kn r = k) ∧ SV l i t k ≠ SV l i t (k - 1) := by
  have hlen : l.length ≤ 200 := hl.1
  have hmono : ∀ {a b : Nat}, a ≤ b → b < l.length → kn (l.getD a []) ≤ kn (l.getD b []) := fun {a b} h hb => by
    rcases Nat.lt_or_ge a b with h2 | h2
    · exact pairwise_getD hl.2.2 h2 hb
    · rw [show a = b by omega]; exact Int.le_refl _
  have key := loop_for (step := bitemp_Changed_l0_step i t l) l.length
    (fun j xs => ∃ (b : Bool) (w0 w1 w2 w3 w4 : Int) (c : List Int), xs = [.b b, .i (j : Int), .i w0, .i w1, .i w2, .i w3, .i w4, .r (ofNums c)] ∧
      (j < l.length → b = ob (SV l i t (kn (l.getD j []) - 1)) ∧ w1 = ov (SV l i t (kn (l.getD j []) - 1))) ∧ c.Pairwise (· < ·) ∧ c.length ≤ j ∧
      ∀ k, k ∈ c ↔ (∃ j', j' < j ∧ dn l j' ∧ kn (l.getD j' []) = k) ∧ SV l i t k ≠ SV l i t (k - 1))
    (fun res => ∃ c : List Int, gr res.2 7 = ofNums c ∧ c.Pairwise (· < ·) ∧ c.length ≤ 200 ∧ ∀ k, k ∈ c ↔ (∃ r ∈ l, kn r = k) ∧ SV l i t k ≠ SV l i t (k - 1))
    (fun j xs hj ⟨b, w0, w1, w2, w3, w4, c, e, hst, hc, hcl, hm⟩ => by
      subst e
      refine .inl ?_
      obtain ⟨hb, hw1⟩ := hst hj
      have hin : decide (IntKind.i64.wrap ((j : Int) + 1) < (l.length : Int)) = true → inR (IntKind.i64.wrap ((j : Int) + 1)) l := fun h => by
        have := of_decide_eq_true h
        rw [wrap_succ (by omega)] at this ⊢
        exact inR_of (by omega)
      unfold bitemp_Changed_l0_step
      simp only [gi_i1, gi_i3, gb_z, gb_7, dlt hj, guardP_pos (inR_of hj), Int.toNat_natCast]
      rw [guardP_pos hin, guardP_pos hin, guardP_pos hin]
      simp only [wrap_succ (show j < 4611686018427387904 by omega), Int.toNat_natCast]
      by_cases hsk : j + 1 < l.length ∧ kn (l.getD (j + 1) []) = kn (l.getD j [])
      · have e1 : (decide (((j + 1 : Nat) : Int) < (l.length : Int)) && ((l.getD (j + 1) []).getD 4 0 == (l.getD j []).getD 4 0)) = true := by
          rw [decide_eq_true (by omega), Bool.true_and, beq_iff_eq]; exact hsk.2
        rw [e1, cond_true]
        refine ⟨_, rfl, b, w0, w1, w2, w3, w4, c, rfl, fun h => by rw [hsk.2]; exact ⟨hb, hw1⟩, hc, by omega, fun k => (hm k).trans ?_⟩
        constructor
        · rintro ⟨⟨j', h1, h2, h3⟩, h4⟩
          exact ⟨⟨j', by omega, h2, h3⟩, h4⟩
        · rintro ⟨⟨j', h1, h2, h3⟩, h4⟩
          refine ⟨⟨j', ?_, h2, h3⟩, h4⟩
          by_cases e : j' = j
          · subst e
            rcases h2 with h2 | h2
            · omega
            · exact absurd hsk.2 h2
          · omega
      · have hd : dn l j := by
          unfold dn
          by_cases h : j + 1 = l.length
          · exact .inl h
          · exact .inr fun h2 => hsk ⟨by omega, h2⟩
        have e1 : (decide (((j + 1 : Nat) : Int) < (l.length : Int)) && ((l.getD (j + 1) []).getD 4 0 == (l.getD j []).getD 4 0)) = false := by
          by_cases h : j + 1 < l.length
          · rw [decide_eq_true (by omega), Bool.true_and, beq_eq_false_iff_ne]
            exact fun h2 => hsk ⟨h, h2⟩
          · rw [decide_eq_false (by omega)]; rfl
        obtain ⟨g1, g2, g3⟩ := holds_is i t (kn (l.getD j [])) l (by omega)
        have g2' : bitemp_holds_5 i t ((l.getD j []).getD 4 0) l = ob (SV l i t (kn (l.getD j []))) := by
          rw [g2]; unfold SV ob; cases HO l i t (kn (l.getD j [])) <;> rfl
        have g3' : bitemp_holds_1 i t ((l.getD j []).getD 4 0) l = ov (SV l i t (kn (l.getD j []))) := by
          rw [g3]; unfold SV ov; cases HO l i t (kn (l.getD j [])) <;> rfl
        rw [e1, cond_false, guardP_pos g1]
        rw [g2', g3', hb, hw1, ob_ov]
        have hnext : j + 1 < l.length → SV l i t (kn (l.getD j [])) = SV l i t (kn (l.getD (j + 1) []) - 1) := fun h => SV_congr fun r hr _ => by
          obtain ⟨a, ha, rfl⟩ := getD_of_mem hr
          have h1 : kn (l.getD (j + 1) []) ≠ kn (l.getD j []) := fun h2 => hsk ⟨h, h2⟩
          have h2 := hmono (show j ≤ j + 1 by omega) h
          rcases Nat.lt_or_ge j a with h3 | h3
          · have := hmono (show j + 1 ≤ a by omega) ha
            omega
          · have := hmono h3 hj
            omega
        have hfit : fitsA 8 ((ofNums c).length + [[(l.getD j []).getD 4 0]].length) := by
          unfold fitsA maxLen; simp [ofNums]; omega
        by_cases hch : SV l i t (kn (l.getD j [])) ≠ SV l i t (kn (l.getD j []) - 1)
        · rw [decide_eq_true hch, cond_true, guardP_pos hfit]
          have e : ofNums c ++ [[(l.getD j []).getD 4 0]] = ofNums (c ++ [kn (l.getD j [])]) := by simp [ofNums]
          rw [e]
          refine ⟨_, rfl, _, _, _, _, _, _, c ++ [kn (l.getD j [])], rfl, fun h => by rw [← hnext h]; exact ⟨rfl, rfl⟩, ?_, by simp; omega, fun k => ?_⟩
          · refine List.pairwise_append.2 ⟨hc, List.pairwise_singleton _ _, fun x hx y hy => ?_⟩
            simp only [List.mem_singleton] at hy
            subst hy
            obtain ⟨⟨j', h1, h2, h3⟩, _⟩ := (hm x).1 hx
            rw [← h3]
            rcases h2 with h2 | h2
            · omega
            · have h4 := hmono (show j' + 1 ≤ j by omega) hj
              have h5 := hmono (show j' ≤ j' + 1 by omega) (by omega)
              omega
          · rw [List.mem_append, List.mem_singleton]
            constructor
            · rintro (h | rfl)
              · obtain ⟨⟨j', h1, h2, h3⟩, h4⟩ := (hm k).1 h
                exact ⟨⟨j', by omega, h2, h3⟩, h4⟩
              · exact ⟨⟨j, by omega, hd, rfl⟩, hch⟩
            · rintro ⟨⟨j', h1, h2, h3⟩, h4⟩
              by_cases e : j' = j
              · exact .inr (by rw [← h3, e])
              · exact .inl ((hm k).2 ⟨⟨j', by omega, h2, h3⟩, h4⟩)
        · rw [decide_eq_false hch, cond_false]
          refine ⟨_, rfl, _, _, _, _, _, _, c, rfl, fun h => by rw [← hnext h]; exact ⟨rfl, rfl⟩, hc, by omega, fun k => (hm k).trans ?_⟩
          constructor
          · rintro ⟨⟨j', h1, h2, h3⟩, h4⟩
            exact ⟨⟨j', by omega, h2, h3⟩, h4⟩
          · rintro ⟨⟨j', h1, h2, h3⟩, h4⟩
            refine ⟨⟨j', ?_, h2, h3⟩, h4⟩
            by_cases e : j' = j
            · subst e
              exact absurd (by rw [h3]; exact h4) hch
            · omega)
    (fun xs ⟨b, w0, w1, w2, w3, w4, c, e, hst, hc, hcl, hm⟩ => by
      subst e
      refine ⟨3, [.b b, .i (l.length : Int), .i w0, .i w1, .i w2, .i w3, .i w4, .r (ofNums c)], ?_, c, ?_, hc, by omega, fun k => (hm k).trans ?_⟩
      · unfold bitemp_Changed_l0_step
        simp only [gi_i1, dnlt]
        rfl
      · simp only [gb_7]
      · constructor
        · rintro ⟨⟨j, h1, h2, h3⟩, h4⟩
          exact ⟨⟨_, getD_mem h1, h3⟩, h4⟩
        · rintro ⟨⟨r, hr, h3⟩, h4⟩
          obtain ⟨j, hj, rfl⟩ := getD_of_mem hr
          obtain ⟨j', g1, g2, g3, g4⟩ := dn_exists hl.2.2 (l.length - 1 - j) j (by omega)
          exact ⟨⟨j', g2, g3, by rw [g4, h3]⟩, h4⟩)
    (xs := bitemp_Changed_l0_init i t l) ⟨false, 0, 0, 0, 0, 0, [], rfl, fun h => by
      have : SV l i t (kn (l.getD 0 []) - 1) = none := by
        unfold SV
        rw [HO_none.2 fun r hr => ?_]
        · rfl
        · obtain ⟨a, ha, rfl⟩ := getD_of_mem hr
          have := hmono (Nat.zero_le a) ha
          unfold says
          rw [decide_eq_false (show ¬ kn (l.getD a []) ≤ kn (l.getD 0 []) - 1 by omega)]
          simp
      rw [this]
      exact ⟨rfl, rfl⟩, List.Pairwise.nil, by simp, fun k => ⟨fun h => (by cases h), fun ⟨⟨j', h, _⟩, _⟩ => absurd h (Nat.not_lt_zero _)⟩⟩
  exact key
theorem Changed_is (i t : Int) (l : List (List Int)) : bitemp_Changed_pre i t l ∧ bitemp_Changed_1 i t l = (if IOK l i t then 0 else 1) ∧ ∃ c : List Int, bitemp_Changed_0 i t l = ofNums c ∧ c.length ≤ 200 ∧ (¬ IOK l i t → c = []) ∧ (IOK l i t → c.Pairwise (· < ·) ∧
    ∀ k, k ∈ c ↔ (∃ r ∈ l, kn r = k) ∧ SV l i t k ≠ SV l i t (k - 1)) := by
  unfold bitemp_Changed_pre bitemp_Changed_0 bitemp_Changed_1
  rw [iok_b]
  by_cases h : IOK l i t
  · rw [decide_eq_true h, if_pos h]
    obtain ⟨g1, c, g2, g3, g4, g5⟩ := changed_is i t l h.1
    exact ⟨⟨(valid_is l).1, fun _ => g1⟩, rfl, c, g2, g4, fun h2 => absurd h h2, fun _ => ⟨g3, g5⟩⟩
  · rw [decide_eq_false h, if_neg h]
    exact ⟨⟨(valid_is l).1, fun h => (by cases h)⟩, rfl, [], rfl, by simp, fun _ => rfl, fun h2 => absurd h2 h⟩
theorem inc_eq {a b : List Int} (ha : a.Pairwise (· < ·)) (hb : b.Pairwise (· < ·)) (h : ∀ k, k ∈ a ↔ k ∈ b) : a = b := by
  refine List.Perm.eq_of_pairwise (le := fun x y => x < y) (fun x y _ _ h1 h2 => by omega) ha hb ?_
  refine (List.perm_ext_iff_of_nodup ?_ ?_).2 h
  · exact List.nodup_iff_pairwise_ne.2 (ha.imp fun h => by omega)
  · exact List.nodup_iff_pairwise_ne.2 (hb.imp fun h => by omega)

/-! ### Knew -/
/-- A row says a value of all times from a to before b. -/
def WH (h : List (List Int)) (a b v : Int) : Prop := ∃ x ∈ h, fr x ≤ a ∧ b ≤ un x ∧ va x = v
theorem whole_iff {i k : Int} {h : List (List Int)} (hc : CAN i k h) {a b v : Int} (hab : a < b) : WH h a b v ↔ ∀ t, a ≤ t → t < b → hasV h t v := by
  constructor
  · rintro ⟨x, hx, x1, x2, x3⟩ t h1 h2
    exact ⟨x, hx, by omega, by omega, x3⟩
  · intro hv
    obtain ⟨x, hx, x1, x2, x3⟩ := hv a (Int.le_refl _) hab
    by_cases hu : b ≤ un x
    · exact ⟨x, hx, x1, hu, x3⟩
    · obtain ⟨y, hy, y1, y2, y3⟩ := hv (un x) (by omega) (by omega)
      obtain ⟨p, hp, rfl⟩ := getD_of_mem hx
      obtain ⟨q, hq, rfl⟩ := getD_of_mem hy
      rcases Nat.lt_trichotomy p q with h1 | h1 | h1
      · rcases pairwise_getD hc.2 h1 hq with h2 | ⟨h2, h3⟩
        · omega
        · exact absurd (by rw [x3, y3]) h3
      · subst h1; omega
      · have h5 := pairwise_getD hc.hi.2 h1 hp
        have := (hc.1 _ hx).2.2.2.2.2.2
        omega
theorem wh_sv {l : List (List Int)} (hl : VR l) {i k a b v : Int} (hab : a < b) : WH (bitemp_history_0 i k l) a b v ↔ ∀ t, a ≤ t → t < b → SV l i t k = some v := by
  obtain ⟨_, h1, h2⟩ := history_is i k l hl
  rw [whole_iff h1 hab]
  constructor
  · intro h t g1 g2; exact HV_iff.1 ((h2 t v).1 (h t g1 g2))
  · intro h t g1 g2; exact (h2 t v).2 (HV_iff.2 (h t g1 g2))
/-- Where a row says it at some time, it was said at the time of some row. -/
theorem wh_back {l : List (List Int)} (hl : VR l) {i k a b v : Int} (hab : a < b) (h : WH (bitemp_history_0 i k l) a b v) : ∃ j, j < l.length ∧ kn (l.getD j []) ≤ k ∧ WH (bitemp_history_0 i (kn (l.getD j [])) l) a b v := by
  rw [wh_sv hl hab] at h
  have hmono : ∀ {a b : Nat}, a ≤ b → b < l.length → kn (l.getD a []) ≤ kn (l.getD b []) := fun {a b} h hb => by
    rcases Nat.lt_or_ge a b with h2 | h2
    · exact pairwise_getD hl.2.2 h2 hb
    · rw [show a = b by omega]; exact Int.le_refl _
  have h0 : 0 < l.length ∧ kn (l.getD 0 []) ≤ k := by
    have := h a (Int.le_refl _) hab
    unfold SV at this
    cases ho : HO l i a k with
    | none => rw [ho] at this; cases this
    | some r =>
      obtain ⟨g1, g2⟩ := HO_some ho
      obtain ⟨j, hj, rfl⟩ := getD_of_mem g1
      unfold says at g2
      simp only [Bool.and_eq_true, decide_eq_true_eq, beq_iff_eq] at g2
      have := hmono (Nat.zero_le j) hj
      exact ⟨by omega, by omega⟩
  have key : ∀ d, d < l.length → kn (l.getD d []) ≤ k → (∀ j, d < j → j < l.length → ¬ kn (l.getD j []) ≤ k) → ∃ j, j < l.length ∧ kn (l.getD j []) ≤ k ∧ WH (bitemp_history_0 i (kn (l.getD j [])) l) a b v := by
    intro d hd hk hno
    refine ⟨d, hd, hk, (wh_sv hl hab).2 fun t g1 g2 => ?_⟩
    rw [← h t g1 g2]
    refine SV_congr fun r hr _ => ?_
    obtain ⟨q, hq, rfl⟩ := getD_of_mem hr
    rcases Nat.lt_or_ge d q with h1 | h1
    · have h2 := hno q h1 hq
      have := hmono (Nat.le_of_lt h1) hq
      omega
    · have := hmono h1 hd
      omega
  have down : ∀ n d, d + n + 1 = l.length → (∀ j, d < j → j < l.length → ¬ kn (l.getD j []) ≤ k) → ∃ j, j < l.length ∧ kn (l.getD j []) ≤ k ∧ WH (bitemp_history_0 i (kn (l.getD j [])) l) a b v := by
    intro n d
    induction d generalizing n with
    | zero => intro hn hno; exact key 0 h0.1 h0.2 hno
    | succ d ih =>
      intro hn hno
      by_cases hk : kn (l.getD (d + 1) []) ≤ k
      · exact key (d + 1) (by omega) hk hno
      · refine ih (n + 1) (by omega) fun j h1 h2 => ?_
        by_cases e : j = d + 1
        · rw [e]; exact hk
        · exact hno j (by omega) h2
  exact down 0 (l.length - 1) (by omega) fun j h1 h2 => by omega
/-- The arguments of Knew are valid. -/
def KOK (l : List (List Int)) (i a b v : Int) : Prop := VR l ∧ IT i ∧ TM a ∧ TM b ∧ a < b ∧ VA v
instance (l : List (List Int)) (i a b v : Int) : Decidable (KOK l i a b v) := by unfold KOK; infer_instance
theorem kok_b (l : List (List Int)) (i a b v : Int) : (!bitemp_Valid_0 l || !bitemp_isItem_0 i || !bitemp_isTime_0 a || !bitemp_isTime_0 b || decide (a ≥ b) || !bitemp_isValue_0 v) = !decide (KOK l i a b v) := by
  rw [(valid_is l).2, isItem_eq, isTime_eq, isTime_eq, isValue_eq, Bool.eq_iff_iff, Bool.not_eq_true', decide_eq_false_iff_not]
  unfold KOK
  simp only [Bool.or_eq_true, Bool.not_eq_true', decide_eq_false_iff_not, decide_eq_true_eq]
  have : (a ≥ b) ↔ ¬ (a < b) := by omega
  rw [this]
  by_cases h : VR l <;> by_cases h2 : IT i <;> by_cases h3 : TM a <;> by_cases h4 : TM b <;> by_cases h5 : a < b <;> by_cases h6 : VA v <;> simp [h, h2, h3, h4, h5, h6]
theorem knew_is (i a b v : Int) (l : List (List Int)) (hk : KOK l i a b v) : loopOk (bitemp_Knew_l0_step i a b v l) (bitemp_Knew_l0_init i a b v l) ∧
    ((∃ j, j < l.length ∧ WH (bitemp_history_0 i (kn (l.getD j [])) l) a b v ∧ (∀ j', j' < j → ¬ WH (bitemp_history_0 i (kn (l.getD j' [])) l) a b v) ∧ bitemp_Knew_l0 i a b v l = (1, [.i (kn (l.getD j []))])) ∨
      ((∀ j, j < l.length → ¬ WH (bitemp_history_0 i (kn (l.getD j [])) l) a b v) ∧ bitemp_Knew_l0 i a b v l = (3, [.i 0, .i 0, .i l.length]))) := by
  have hl := hk.1
  have hlen := hl.1
  classical
  have key := loop_search (step := bitemp_Knew_l0_step i a b v l) l.length (fun j => decide (WH (bitemp_history_0 i (kn (l.getD j [])) l) a b v)) (fun j => [.i 0, .i 0, .i j]) (fun j => [.i (kn (l.getD j []))]) 0 2 [.i 0, .i 0, .i l.length]
    (fun j hj => by
      obtain ⟨hp, hc, _⟩ := history_is i (kn (l.getD j [])) l hl
      have hhl := hc.hi.len
      have eq2 : gi [U.i 0, U.i 0, U.i (j : Int)] 2 = (j : Int) := rfl
      have key1 := loop_search (step := bitemp_Knew_l1_step i a b v l [U.i 0, U.i 0, U.i (j : Int)]) (bitemp_history_0 i (kn (l.getD j [])) l).length (fun q => decide (fr ((bitemp_history_0 i (kn (l.getD j [])) l).getD q []) ≤ a) && decide (b ≤ un ((bitemp_history_0 i (kn (l.getD j [])) l).getD q [])) && (va ((bitemp_history_0 i (kn (l.getD j [])) l).getD q []) == v))
        (fun q => [.i 0, .i q]) (fun q => [.i q]) 0 2 [.i 0, .i (bitemp_history_0 i (kn (l.getD j [])) l).length]
        (fun q hq => by
          unfold bitemp_Knew_l1_step
          simp only [eq2, Int.toNat_natCast]
          generalize bitemp_history_0 i (kn (l.getD j [])) l = h at hq hhl
          simp only [gi_1, gi_z, dlt hq, guardP_pos (inR_of hq), Int.toNat_natCast, wrap_succ (show q < 4611686018427387904 by omega)])
        (by
          unfold bitemp_Knew_l1_step
          simp only [eq2, Int.toNat_natCast]
          generalize bitemp_history_0 i (kn (l.getD j [])) l = h
          simp only [gi_1, gi_z, dnlt])
      unfold bitemp_Knew_l0_step
      simp only [eq2, dlt hj, guardP_pos (inR_of hj), Int.toNat_natCast, wrap_succ (show j < 4611686018427387904 by omega), gi_z, gi_1]
      rw [guardP_pos hp, guardP_pos (show loopOk _ (bitemp_Knew_l1_init i a b v l [U.i 0, U.i 0, U.i (j : Int)]) from key1.1)]
      rcases key1.2 with ⟨q, q1, q2, q3, q4⟩ | ⟨q3, q4⟩
      · have e : bitemp_Knew_l1 i a b v l [U.i 0, U.i 0, U.i (j : Int)] = (1, [.i q]) := q4
        have hw : WH (bitemp_history_0 i (kn (l.getD j [])) l) a b v := by
          simp only [Bool.and_eq_true, decide_eq_true_eq, beq_iff_eq] at q2
          exact ⟨_, getD_mem q1, q2.1.1, q2.1.2, q2.2⟩
        have hb : decide ((bif (bitemp_Knew_l1 i a b v l [U.i 0, U.i 0, U.i (j : Int)]).1.beq 1 then gi (bitemp_Knew_l1 i a b v l [U.i 0, U.i 0, U.i (j : Int)]).2 0 else -1) ≥ (0 : Int)) = true := by
          rw [e]; simp [Nat.beq, gi_z]
        rw [hb, decide_eq_true hw]
      · have e : bitemp_Knew_l1 i a b v l [U.i 0, U.i 0, U.i (j : Int)] = (3, [.i 0, .i (bitemp_history_0 i (kn (l.getD j [])) l).length]) := q4
        have hw : ¬ WH (bitemp_history_0 i (kn (l.getD j [])) l) a b v := by
          rintro ⟨x, hx, x1, x2, x3⟩
          obtain ⟨q, hq, rfl⟩ := getD_of_mem hx
          have := q3 q hq
          rw [decide_eq_true x1, decide_eq_true x2] at this
          simp at this
          try exact this (by simpa using x3)
        have hb : decide ((bif (bitemp_Knew_l1 i a b v l [U.i 0, U.i 0, U.i (j : Int)]).1.beq 1 then gi (bitemp_Knew_l1 i a b v l [U.i 0, U.i 0, U.i (j : Int)]).2 0 else -1) ≥ (0 : Int)) = false := by
          rw [e]; simp [Nat.beq]
        rw [hb, decide_eq_false hw])
    (by
      unfold bitemp_Knew_l0_step
      have eq2 : gi [U.i 0, U.i 0, U.i (l.length : Int)] 2 = (l.length : Int) := rfl
      simp only [eq2, dnlt, gi_z, gi_1])
  refine ⟨key.1, ?_⟩
  rcases key.2 with ⟨j, h1, h2, h3, h4⟩ | ⟨h3, h4⟩
  · exact .inl ⟨j, h1, of_decide_eq_true h2, fun j' h => of_decide_eq_false (h3 j' h), h4⟩
  · exact .inr ⟨fun j' h => of_decide_eq_false (h3 j' h), h4⟩
theorem Knew_is (i a b v : Int) (l : List (List Int)) : bitemp_Knew_pre i a b v l ∧ (¬ KOK l i a b v → bitemp_Knew_1 i a b v l = 1) ∧ (KOK l i a b v →
    ((∃ j, j < l.length ∧ WH (bitemp_history_0 i (kn (l.getD j [])) l) a b v ∧ (∀ j', j' < j → ¬ WH (bitemp_history_0 i (kn (l.getD j' [])) l) a b v) ∧ bitemp_Knew_0 i a b v l = kn (l.getD j []) ∧ bitemp_Knew_1 i a b v l = 0) ∨
      ((∀ j, j < l.length → ¬ WH (bitemp_history_0 i (kn (l.getD j [])) l) a b v) ∧ bitemp_Knew_0 i a b v l = 0 ∧ bitemp_Knew_1 i a b v l = 4))) := by
  unfold bitemp_Knew_pre bitemp_Knew_0 bitemp_Knew_1
  rw [kok_b]
  by_cases h : KOK l i a b v
  · rw [decide_eq_true h]
    obtain ⟨g1, g2⟩ := knew_is i a b v l h
    refine ⟨⟨(valid_is l).1, fun _ => g1⟩, fun h2 => absurd h h2, fun _ => ?_⟩
    rcases g2 with ⟨j, h1, h2, h3, h4⟩ | ⟨h3, h4⟩
    · exact .inl ⟨j, h1, h2, h3, by rw [h4]; rfl, by rw [h4]; rfl⟩
    · exact .inr ⟨h3, by rw [h4]; rfl, by rw [h4]; rfl⟩
  · rw [decide_eq_false h]
    exact ⟨⟨(valid_is l).1, fun h => (by cases h)⟩, fun _ => rfl, fun h2 => absurd h2 h⟩
end Go.Proofs.Ytcbgjecpnhjlpaa
