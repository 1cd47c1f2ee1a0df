/-
  DeskBetter, as far as what the functions compute.
-/
import Derived.Test.YtnijhjpaplihbaaGreatDeskI
import Derived.Test.YtnijhjpaplihbaaGreatDeskV
set_option linter.unusedVariables false
set_option linter.unusedSimpArgs false
set_option maxRecDepth 100000
namespace Go.Proofs.YtnijhjpaplihbaaGreat
open Go Go.Sy

theorem vb_of_wb {f u : Int} {c : List (List Int)} {b x : List Int} (hs : sumE f u c = 0) (hb : VB b) (hw : WB (mvF f u c b) x) (hx : VB x) : VB (mvF f u c b) := by
  have g := mvF_get f u c b
  have hv := (sumE_ok hs).1
  have s2 := sumL_x (f := f) (u := u) hv
  have s4 := sumL_y (f := f) (u := u) hv
  rw [sumV_ok hs, sumV_ok hs, sumV_ok hs, sumV_ok hs] at g
  unfold lo hi at g
  unfold WB at hw
  unfold VB at *
  omega
/-- What drifts by both forecasts lies within what drifts by the first. -/
theorem bet_wb {a b : List (List Int)} (h : betE a b = 0) {f u : Int} (hs : sumE f u a = 0) (x : List Int) : WB (mvF f u (betL a b) x) (mvF f u a x) := by
  obtain ⟨s2, q2, q3, q4, q5⟩ := bet_sum h hs
  have k1 := mvF_get f u a x
  have k2 := mvF_get f u (betL a b) x
  rw [sumV_ok hs, sumV_ok hs, sumV_ok hs, sumV_ok hs] at k1
  rw [sumV_ok s2, sumV_ok s2, sumV_ok s2, sumV_ok s2] at k2
  unfold lo hi at k1 k2
  unfold WB
  omega
theorem wb_tr {x y z : List Int} (h : WB x y) (k : WB y z) : WB x z := by unfold WB at *; omega
theorem sumE_vals (f u : Int) (c : List (List Int)) : sumE f u c = 0 ∨ sumE f u c = 1 ∨ sumE f u c = 4 := by
  unfold sumE
  split
  · exact .inr (.inl rfl)
  · split
    · exact .inr (.inr rfl)
    · exact .inl rfl
theorem lg_bet {c m wr : List (List Int)} (hE : betE c m = 0) : ∀ (rs : List (List Int)) (i : Nat) (S T : List (List Int)) (at_ : Int), (∀ r ∈ rs, RVr r) → (∀ b ∈ S, VB b) → dom S T →
    ((lg c wr rs i T at_).1 = 18 → (lg (betL c m) wr rs i S at_).1 = 18) ∧
    ((lg c wr rs i T at_).1 = 0 → (lg (betL c m) wr rs i S at_).1 = 18 ∨ ((lg (betL c m) wr rs i S at_).1 = 0 ∧ dom (lg (betL c m) wr rs i S at_).2 (lg c wr rs i T at_).2))
  | [], _, _, _, _, _, _, hd => ⟨fun h => (by cases h), fun _ => .inr ⟨rfl, hd⟩⟩
  | r :: rs, i, S, T, at_, hr, hv, hd => by
    have rec' := fun S T => lg_bet (wr := wr) hE rs (i + 1) S T (r.getD 2 0) (fun q hq => hr q (List.mem_cons_of_mem _ hq))
    have hbx := (bx_is (hr r (by simp))).2.2
    -- a round by the first forecast alone that goes on
    have go : sumE at_ (r.getD 2 0) c = 0 → (∀ b ∈ T, VB (mvF at_ (r.getD 2 0) c b)) →
        sumE at_ (r.getD 2 0) (betL c m) = 0 ∧ (∀ b ∈ S, VB (mvF at_ (r.getD 2 0) (betL c m) b)) ∧ dom (S.map (mvF at_ (r.getD 2 0) (betL c m))) (T.map (mvF at_ (r.getD 2 0) c)) := by
      intro h1 h2
      have s2 := (bet_sum hE h1).1
      have hw : ∀ b ∈ S, ∃ b' ∈ T, WB (mvF at_ (r.getD 2 0) (betL c m) b) (mvF at_ (r.getD 2 0) c b') := fun b hb => by
        obtain ⟨b', hb', w⟩ := hd b hb
        exact ⟨b', hb', wb_tr (bet_wb hE h1 b) (wb_mono w)⟩
      refine ⟨s2, fun b hb => ?_, fun b hb => ?_⟩
      · obtain ⟨b', hb', w⟩ := hw b hb
        exact vb_of_wb s2 (hv b hb) w (h2 b' hb')
      · obtain ⟨x, hx, rfl⟩ := List.mem_map.1 hb
        obtain ⟨b', hb', w⟩ := hw x hx
        exact ⟨_, List.mem_map.2 ⟨b', hb', rfl⟩, w⟩
    have vmap : (∀ b ∈ S, VB (mvF at_ (r.getD 2 0) (betL c m) b)) → ∀ b ∈ S.map (mvF at_ (r.getD 2 0) (betL c m)), VB b := fun h b hb => by
      obtain ⟨x, hx, rfl⟩ := List.mem_map.1 hb
      exact h x hx
    have vcut : ∀ {L : List (List Int)}, (∀ b ∈ L, VB b) → ∀ b ∈ cutP (bxD r) L, VB b := fun {L} h b hb => by
      obtain ⟨x, hx, hm, rfl⟩ := mem_cutP.1 hb
      exact vb_mt (h x hx) hbx hm
    rcases lg_step c wr r rs i T at_ with ⟨h1, e⟩ | ⟨h1, h2, e⟩ | ⟨h1, h2, h3, e⟩ | ⟨h1, h2, h3, h4, e⟩ | ⟨h1, h2, h3, h4, e⟩ <;> rw [e]
    · rcases sumE_vals at_ (r.getD 2 0) c with k | k | k
      · exact absurd k h1
      · rw [k]; exact ⟨fun h => (by cases h), fun h => (by cases h)⟩
      · rw [k]; exact ⟨fun h => (by cases h), fun h => (by cases h)⟩
    · exact ⟨fun h => (by cases h), fun h => (by cases h)⟩
    · obtain ⟨g1, g2, g3⟩ := go h1 h2
      rcases lg_step (betL c m) wr r rs i S at_ with ⟨k1, e'⟩ | ⟨k1, ⟨b, hb, k2⟩, e'⟩ | ⟨k1, k2, k3, e'⟩ | ⟨k1, k2, k3, k4, e'⟩ | ⟨k1, k2, k3, k4, e'⟩
      · exact absurd g1 k1
      · exact absurd (g2 b hb) k2
      · rw [e']; exact rec' _ _ (vmap g2) g3
      · rw [h3] at k3; cases k3
      · rw [h3] at k3; cases k3
    · obtain ⟨g1, g2, g3⟩ := go h1 h2
      refine ⟨fun _ => ?_, fun h => (by cases h)⟩
      have hc := dom_cut g3 (bxD r)
      rw [h4] at hc
      rcases lg_step (betL c m) wr r rs i S at_ with ⟨k1, e'⟩ | ⟨k1, ⟨b, hb, k2⟩, e'⟩ | ⟨k1, k2, k3, e'⟩ | ⟨k1, k2, k3, k4, e'⟩ | ⟨k1, k2, k3, k4, e'⟩
      · exact absurd g1 k1
      · exact absurd (g2 b hb) k2
      · rw [h3] at k3; cases k3
      · rw [e']
      · exact absurd (dom_nil hc) k4
    · obtain ⟨g1, g2, g3⟩ := go h1 h2
      rcases lg_step (betL c m) wr r rs i S at_ with ⟨k1, e'⟩ | ⟨k1, ⟨b, hb, k2⟩, e'⟩ | ⟨k1, k2, k3, e'⟩ | ⟨k1, k2, k3, k4, e'⟩ | ⟨k1, k2, k3, k4, e'⟩
      · exact absurd g1 k1
      · exact absurd (g2 b hb) k2
      · rw [h3] at k3; cases k3
      · rw [e']; exact ⟨fun _ => rfl, fun _ => .inl rfl⟩
      · rw [e']; exact rec' _ _ (vcut (vmap g2)) (dom_cut g3 _)
theorem svE_bet {f : Int} {base c m rp : List (List Int)} (hE : betE c m = 0) (hc : VC c) : svE f base (betL c m) rp = svE f base c rp := by
  unfold svE
  have h := (bet_ok hE).1
  simp only [h, hc]
theorem betE_vc {a b : List (List Int)} (h : betE a b = 0) : VC a := by
  unfold betE at h
  split at h
  · cases h
  · rename_i k
    exact Decidable.byContradiction fun z => k (.inl z)
theorem fol_bet {f : Int} {base c m rp wr : List (List Int)} (hE : betE c m = 0) :
    (fE f base c rp wr = 18 → fE f base (betL c m) rp wr = 18) ∧
    (fE f base c rp wr = 0 → fE f base (betL c m) rp wr = 18 ∨ (fE f base (betL c m) rp wr = 0 ∧ dom (fL f base (betL c m) rp wr) (fL f base c rp wr) ∧ (fL f base (betL c m) rp wr).length ≤ 16 ∧ (fL f base c rp wr).length ≤ 16)) := by
  have hs := svE_bet (f := f) (base := base) (rp := rp) hE (betE_vc hE)
  rcases sv_cases f base c rp with ⟨e, _⟩ | ⟨e, g, _⟩ | ⟨e, g, _⟩
  · unfold fE
    rw [e]
    exact ⟨fun h => (by cases h), fun h => (by cases h)⟩
  · unfold fE
    rw [e]
    constructor
    · intro h
      split at h
      · cases h
      · cases h
    · intro h
      split at h
      · cases h
      · cases h
  · cases hW : wB rp.length (-1) wr with
    | false =>
      unfold fE
      rw [if_pos (.inr hW)]
      exact ⟨fun h => (by cases h), fun h => (by cases h)⟩
    | true =>
      obtain ⟨x1, x2⟩ := fE_ok e hW
      obtain ⟨y1, y2⟩ := fE_ok (hs.trans e) hW
      rw [x1, x2, y1, y2]
      obtain ⟨l1, l2⟩ := lg_bet (wr := wr) hE rp 0 base base f g.rv g.vl.2.2 (dom_refl _)
      refine ⟨l1, fun h => ?_⟩
      rcases l2 h with k | ⟨k1, k2⟩
      · exact .inl k
      · exact .inr ⟨k1, k2, ((lg_vl _ wr rp 0 base f g.vl g.rv).1 k1).2.1, ((lg_vl c wr rp 0 base f g.vl g.rv).1 h).2.1⟩
theorem deskBetter_ok (f px py : Int) (base fc rp more wr : List (List Int)) (h13 : Si.El13 rp) (hf : fc.length ≤ 9223372036854775807) (hm : more.length ≤ 9223372036854775807) (hf6 : ∀ c ∈ fc, c.length = 6) (hm6 : ∀ c ∈ more, c.length = 6) (hw : wr.length ≤ 9223372036854775807) :
    law25_DeskBetter_0 f px py base fc rp more wr = true ∧ law25_DeskBetter_pre f px py base fc rp more wr := by
  obtain ⟨hh, hp⟩ := head_ok
  unfold law25_DeskBetter_0 law25_DeskBetter_pre
  rw [hh]
  by_cases hn : rp.length ≤ 12
  · have b0 : decide ((rp.length : Int) > 12) = false := by rw [decide_eq_false_iff_not]; omega
    rw [b0, cond_false]
    obtain ⟨p1, c1, c0⟩ := better_is fc more hf hm hf6 hm6
    have bl : (betL fc more).length ≤ 9223372036854775807 := by
      unfold betL
      split
      · rename_i h
        have := (bet_ok h).1
        have h2 := (bet_ok h).1.2
        unfold betL at h2
        rw [if_pos h] at h2
        omega
      · simp
    obtain ⟨f1, f2, f3⟩ := follow_is f base fc rp wr h13 hf hw
    obtain ⟨g1, g2, g3⟩ := follow_is f base (betL fc more) rp wr h13 bl hw
    rw [c0, c1, f2, f3, g2, g3]
    by_cases hE : betE fc more = 0
    · rw [hE]
      obtain ⟨q1, q2⟩ := fol_bet (f := f) (base := base) (rp := rp) (wr := wr) hE
      by_cases h0 : fE f base fc rp wr = 0
      · rw [h0]
        rcases q2 h0 with k | ⟨k1, k2, k3, k4⟩
        · rw [k]
          exact ⟨rfl, hp, fun _ => ⟨p1, f1, g1, fun _ _ h => (by cases h)⟩⟩
        · rw [k1]
          obtain ⟨r1, r2⟩ := rhas_is px py (fL f base (betL fc more) rp wr) (by omega)
          obtain ⟨s1, s2⟩ := rhas_is px py (fL f base fc rp wr) (by omega)
          rw [r2, s2]
          refine ⟨?_, hp, fun _ => ⟨p1, f1, g1, fun _ _ _ => ⟨fun _ => r1, fun _ _ => s1⟩⟩⟩
          by_cases hx : ∃ b ∈ fL f base (betL fc more) rp wr, HB px py b
          · rw [decide_eq_true (dom_hb k2 hx), Bool.or_true]; rfl
          · rw [decide_eq_false hx]; rfl
      · have b : (fE f base fc rp wr != 0) = true := by rw [bne_iff_ne]; exact h0
        rw [b]
        refine ⟨?_, hp, fun _ => ⟨p1, f1, g1, fun _ h => (by cases h)⟩⟩
        by_cases h1 : fE f base fc rp wr = 18
        · rw [q1 h1, h1]; rfl
        · have b2 : (fE f base fc rp wr != 18) = true := by rw [bne_iff_ne]; exact h1
          rw [b2]; rfl
    · have b : (betE fc more != 0) = true := by rw [bne_iff_ne]; exact hE
      rw [b]
      exact ⟨rfl, hp, fun _ => ⟨p1, f1, g1, fun h => (by cases h)⟩⟩
  · have b0 : decide ((rp.length : Int) > 12) = true := by rw [decide_eq_true_eq]; omega
    rw [b0]
    exact ⟨rfl, hp, fun h => (by cases h)⟩
end Go.Proofs.YtnijhjpaplihbaaGreat
