/-
  What two forecasts say together: its rows, and what it says at a minute.
-/
import Derived.Test.YtddfnokjnafdpaaDriftV
set_option linter.unusedVariables false
set_option maxRecDepth 100000
namespace Go.Proofs.Ytddfnokjnafdpaa
open Go Go.Sy

/-- What both say at a time, as a current from f to u. -/
def bRow (c d : Option (List Int)) (f u : Int) : Option (List Int) :=
  match c, d with
  | some c, some d => some [f, u, max (c.getD 2 0) (d.getD 2 0), min (c.getD 3 0) (d.getD 3 0), max (c.getD 4 0) (d.getD 4 0), min (c.getD 5 0) (d.getD 5 0)]
  | some c, none => some [f, u, c.getD 2 0, c.getD 3 0, c.getD 4 0, c.getD 5 0]
  | none, some d => some [f, u, d.getD 2 0, d.getD 3 0, d.getD 4 0, d.getD 5 0]
  | none, none => none
/-- They do not contradict one another. -/
def bOk (c d : Option (List Int)) : Prop :=
  match c, d with
  | some c, some d => max (c.getD 2 0) (d.getD 2 0) ≤ min (c.getD 3 0) (d.getD 3 0) ∧ max (c.getD 4 0) (d.getD 4 0) ≤ min (c.getD 5 0) (d.getD 5 0)
  | _, _ => True
instance decBOk : (c d : Option (List Int)) → Decidable (bOk c d)
  | some c, some d => by unfold bOk; infer_instance
  | some _, none => .isTrue trivial
  | none, some _ => .isTrue trivial
  | none, none => .isTrue trivial
theorem bRow_symm (c d : Option (List Int)) (f u : Int) : bRow c d f u = bRow d c f u := by
  cases c <;> cases d <;> first | rfl | skip
  unfold bRow
  simp only [Int.max_comm, Int.min_comm]
theorem bOk_symm (c d : Option (List Int)) : bOk c d ↔ bOk d c := by
  cases c <;> cases d <;> first | exact Iff.rfl | skip
  unfold bOk
  simp only []
  omega
/-- The currents of both. -/
def bAll (a b : List (List Int)) : List (Int × Int) → List (List Int)
  | [] => []
  | p :: r => (bRow (atT a p.1) (atT b p.1) p.1 p.2).toList ++ bAll a b r
def bLie (a b : List (List Int)) : Prop := ∃ p ∈ prs (bT a b), ¬ bOk (atT a p.1) (atT b p.1)
instance (a b : List (List Int)) : Decidable (bLie a b) := by unfold bLie; infer_instance
def betE (a b : List (List Int)) : Int := if ¬ VC a ∨ ¬ VC b then 1 else if bLie a b then 18 else if (bAll a b (prs (bT a b))).length > 60 then 2 else 0
def betL (a b : List (List Int)) : List (List Int) := if betE a b = 0 then bAll a b (prs (bT a b)) else []
theorem bAll_symm (a b : List (List Int)) : ∀ l, bAll a b l = bAll b a l
  | [] => rfl
  | p :: r => by unfold bAll; rw [bRow_symm, bAll_symm a b r]
theorem bLie_symm (a b : List (List Int)) : bLie a b ↔ bLie b a := by
  unfold bLie
  rw [bT_symm]
  constructor <;> rintro ⟨p, hp, h⟩ <;> exact ⟨p, hp, fun k => h ((bOk_symm _ _).1 k)⟩
theorem betE_symm (a b : List (List Int)) : betE a b = betE b a := by
  unfold betE
  have h1 : (¬ VC a ∨ ¬ VC b) ↔ (¬ VC b ∨ ¬ VC a) := Or.comm
  have h2 := bLie_symm a b
  rw [bT_symm a b, bAll_symm a b]
  by_cases g1 : ¬ VC a ∨ ¬ VC b
  · rw [if_pos g1, if_pos (h1.1 g1)]
  · rw [if_neg g1, if_neg (fun k => g1 (h1.2 k))]
    by_cases g2 : bLie a b
    · rw [if_pos g2, if_pos (h2.1 g2)]
    · rw [if_neg g2, if_neg (fun k => g2 (h2.2 k))]
theorem betL_symm (a b : List (List Int)) : betL a b = betL b a := by
  unfold betL
  rw [betE_symm a b, bT_symm a b, bAll_symm a b]
theorem betE_cases (a b : List (List Int)) : betE a b = 1 ∨ betE a b = 18 ∨ betE a b = 2 ∨ (betE a b = 0 ∧ VC a ∧ VC b ∧ ¬ bLie a b ∧ (bAll a b (prs (bT a b))).length ≤ 60 ∧ betL a b = bAll a b (prs (bT a b))) := by
  unfold betL betE
  by_cases g1 : ¬ VC a ∨ ¬ VC b
  · rw [if_pos g1]; exact .inl rfl
  · rw [if_neg g1]
    by_cases g2 : bLie a b
    · rw [if_pos g2]; exact .inr (.inl rfl)
    · rw [if_neg g2]
      by_cases g3 : (bAll a b (prs (bT a b))).length > 60
      · rw [if_pos g3]; exact .inr (.inr (.inl rfl))
      · rw [if_neg g3]
        exact .inr (.inr (.inr ⟨rfl, Decidable.byContradiction fun k => g1 (.inl k), Decidable.byContradiction fun k => g1 (.inr k), g2, by omega, if_pos rfl⟩))
/-- Both as a current of their own. -/
theorem bRow_ok {c d : Option (List Int)} {f u e : Int} {r : List Int} (hc : ∀ x, c = some x → ∃ e, CO e x) (hd : ∀ x, d = some x → ∃ e, CO e x) (ho : bOk c d) (hr : bRow c d f u = some r) (h1 : e ≤ f) (h2 : f < u) (h3 : u ≤ 10000000) : CO e r ∧ r.getD 0 0 = f ∧ r.getD 1 0 = u ∧ r.length = 6 := by
  cases c with
  | none => cases d with
    | none => cases hr
    | some d =>
      cases hr
      obtain ⟨e', h⟩ := hd d rfl
      unfold CO at *
      simp only [List.getD_cons_zero, List.getD_cons_succ]
      exact ⟨by omega, trivial, trivial, rfl⟩
  | some c => cases d with
    | none =>
      cases hr
      obtain ⟨e', h⟩ := hc c rfl
      unfold CO at *
      simp only [List.getD_cons_zero, List.getD_cons_succ]
      exact ⟨by omega, trivial, trivial, rfl⟩
    | some d =>
      cases hr
      obtain ⟨e', h⟩ := hc c rfl
      obtain ⟨e2, g⟩ := hd d rfl
      unfold bOk at ho
      unfold CO at *
      simp only [List.getD_cons_zero, List.getD_cons_succ] at *
      exact ⟨by omega, trivial, trivial, rfl⟩
theorem atT_co {a : List (List Int)} (hv : VC a) {t : Int} : ∀ x, atT a t = some x → ∃ e, CO e x := fun x h => ⟨0, CL_mem hv.1 x (atT_some h).1⟩
theorem bAll_cl {a b : List (List Int)} (ha : VC a) (hb : VC b) : ∀ (l : List (Int × Int)) (e : Int), l.Pairwise (fun p q => p.2 ≤ q.1) → (∀ p ∈ l, e ≤ p.1 ∧ p.1 < p.2 ∧ p.2 ≤ 10000000 ∧ bOk (atT a p.1) (atT b p.1)) → CL e (bAll a b l) ∧ ∀ r ∈ bAll a b l, r.length = 6
  | [], e, _, _ => ⟨trivial, fun r h => by cases h⟩
  | p :: l, e, hw, h => by
    rw [List.pairwise_cons] at hw
    obtain ⟨h1, h2, h3, h4⟩ := h p List.mem_cons_self
    unfold bAll
    cases hr : bRow (atT a p.1) (atT b p.1) p.1 p.2 with
    | none => exact bAll_cl ha hb l e hw.2 fun q hq => h q (List.mem_cons_of_mem _ hq)
    | some r =>
      obtain ⟨g1, g2, g3, g4⟩ := bRow_ok (atT_co ha) (atT_co hb) h4 hr h1 h2 h3
      obtain ⟨k1, k2⟩ := bAll_cl ha hb l p.2 hw.2 fun q hq => by
        have := h q (List.mem_cons_of_mem _ hq)
        exact ⟨hw.1 q hq, this.2⟩
      refine ⟨⟨g1, by rw [g3]; exact k1⟩, fun x hx => ?_⟩
      rcases List.mem_cons.1 hx with rfl | hx
      · exact g4
      · exact k2 x hx
theorem prs_rise : ∀ {l : List Int}, l.Pairwise (fun x y => x < y) → (prs l).Pairwise fun p q => p.2 ≤ q.1
  | [], _ => List.Pairwise.nil
  | [_], _ => List.Pairwise.nil
  | x :: y :: r, h => by
    have h2 := List.pairwise_cons.1 h
    unfold prs
    refine List.pairwise_cons.2 ⟨fun q hq => ?_, prs_rise h2.2⟩
    have := (prs_mem h2.2 hq).1
    rcases List.mem_cons.1 this with e | k
    · simp only []; omega
    · have := (List.pairwise_cons.1 h2.2).1 _ k
      simp only []; omega
theorem bT_bd {a b : List (List Int)} (ha : VC a) (hb : VC b) {x : Int} (h : x ∈ bT a b) : 0 ≤ x ∧ x ≤ 10000000 := by
  obtain ⟨c, hc, h⟩ := mem_bT.1 h
  have : CO 0 c := by rcases hc with hc | hc; exact CL_mem ha.1 c hc; exact CL_mem hb.1 c hc
  unfold CO at this
  omega
/-- In a part between neighbouring times a forecast says the same. -/
theorem atT_part {a b : List (List Int)} {p : Int × Int} (hp : p ∈ prs (bT a b)) {t : Int} (h1 : p.1 ≤ t) (h2 : t < p.2) : atT a t = atT a p.1 ∧ atT b t = atT b p.1 := by
  obtain ⟨_, _, h3, h4⟩ := prs_mem (bT_rise a b) hp
  have key : ∀ l : List (List Int), (∀ c ∈ l, c ∈ a ∨ c ∈ b) → atT l t = atT l p.1 := by
    intro l
    induction l with
    | nil => intro _; rfl
    | cons c l ih =>
      intro hl
      rw [atT_cons, atT_cons, ih fun d hd => hl d (List.mem_cons_of_mem _ hd)]
      have e0 := h4 (c.getD 0 0) (mem_bT.2 ⟨c, hl c List.mem_cons_self, .inl rfl⟩)
      have e1 := h4 (c.getD 1 0) (mem_bT.2 ⟨c, hl c List.mem_cons_self, .inr rfl⟩)
      by_cases hh : c.getD 0 0 ≤ t ∧ t < c.getD 1 0
      · rw [if_pos hh, if_pos (by omega)]
      · rw [if_neg hh, if_neg (by omega)]
  exact ⟨key a fun c hc => .inl hc, key b fun c hc => .inr hc⟩
theorem bAll_at {a b : List (List Int)} (ha : VC a) (hb : VC b) : ∀ (l : List (Int × Int)), l.Pairwise (fun p q => p.2 ≤ q.1) → (∀ p ∈ l, p.1 < p.2) → ∀ {p : Int × Int} {t : Int}, p ∈ l → p.1 ≤ t → t < p.2 → atT (bAll a b l) t = bRow (atT a p.1) (atT b p.1) p.1 p.2
  | [], _, _, p, t, h, _, _ => by cases h
  | q :: l, hw, hlt, p, t, h, h1, h2 => by
    rw [List.pairwise_cons] at hw
    have skip : ∀ r, bRow (atT a q.1) (atT b q.1) q.1 q.2 = some r → r.getD 0 0 = q.1 ∧ r.getD 1 0 = q.2 := by
      intro r hr
      unfold bRow at hr
      split at hr
      · cases hr; exact ⟨rfl, rfl⟩
      · cases hr; exact ⟨rfl, rfl⟩
      · cases hr; exact ⟨rfl, rfl⟩
      · cases hr
    have after : ∀ (l : List (Int × Int)), (∀ p ∈ l, t < p.1) → atT (bAll a b l) t = none := by
      intro l
      induction l with
      | nil => intro _; rfl
      | cons p l ih =>
        intro hl
        have hp := hl p List.mem_cons_self
        have ih := ih fun q hq => hl q (List.mem_cons_of_mem _ hq)
        unfold bAll
        cases hr : bRow (atT a p.1) (atT b p.1) p.1 p.2 with
        | none => exact ih
        | some r =>
          have hr0 : r.getD 0 0 = p.1 := by
            unfold bRow at hr
            split at hr
            · cases hr; rfl
            · cases hr; rfl
            · cases hr; rfl
            · cases hr
          show atT (r :: bAll a b l) t = none
          rw [atT_cons, if_neg (by omega)]
          exact ih
    unfold bAll
    rcases List.mem_cons.1 h with rfl | h
    · cases hr : bRow (atT a p.1) (atT b p.1) p.1 p.2 with
      | none =>
        exact after l fun q hq => by have := hw.1 q hq; omega
      | some r =>
        obtain ⟨r0, r1⟩ := skip r hr
        show atT (r :: bAll a b l) t = some r
        rw [atT_cons, if_pos (by omega)]
    · have hq := hw.1 p h
      have ih := bAll_at ha hb l hw.2 (fun p hp => hlt p (List.mem_cons_of_mem _ hp)) h h1 h2
      cases hr : bRow (atT a q.1) (atT b q.1) q.1 q.2 with
      | none => exact ih
      | some r =>
        obtain ⟨r0, r1⟩ := skip r hr
        show atT (r :: bAll a b l) t = _
        rw [atT_cons, if_neg (by omega)]
        exact ih
/-- What both say together is a forecast; and where one of them says something, it says something that fits. -/
theorem bet_ok {a b : List (List Int)} (h : betE a b = 0) : VC (betL a b) ∧ (∀ r ∈ betL a b, r.length = 6) ∧ ∀ t x, atT a t = some x → ∃ y, atT (betL a b) t = some y ∧ x.getD 2 0 ≤ y.getD 2 0 ∧ y.getD 3 0 ≤ x.getD 3 0 ∧ x.getD 4 0 ≤ y.getD 4 0 ∧ y.getD 5 0 ≤ x.getD 5 0 := by
  rcases betE_cases a b with g | g | g | ⟨_, ha, hb, hl, h60, e⟩
  · rw [h] at g; cases g
  · rw [h] at g; cases g
  · rw [h] at g; cases g
  have hr := prs_rise (bT_rise a b)
  have hm : ∀ p ∈ prs (bT a b), 0 ≤ p.1 ∧ p.1 < p.2 ∧ p.2 ≤ 10000000 ∧ bOk (atT a p.1) (atT b p.1) := by
    intro p hp
    obtain ⟨h1, h2, h3, h4⟩ := prs_mem (bT_rise a b) hp
    exact ⟨(bT_bd ha hb h1).1, h3, (bT_bd ha hb h2).2, Decidable.byContradiction fun k => hl ⟨p, hp, k⟩⟩
  obtain ⟨c1, c2⟩ := bAll_cl ha hb _ 0 hr hm
  rw [e]
  refine ⟨⟨c1, h60⟩, c2, fun t x hx => ?_⟩
  obtain ⟨x1, x2, x3⟩ := atT_some hx
  obtain ⟨p, hp, p1, p2⟩ := prs_find (bT_rise a b) (t := t) (mem_bT.2 ⟨x, .inl x1, .inl rfl⟩) (mem_bT.2 ⟨x, .inl x1, .inr rfl⟩) x2 x3
  rw [bAll_at ha hb _ hr (fun q hq => (hm q hq).2.1) hp p1 p2]
  rw [← (atT_part hp p1 p2).1, hx]
  cases atT b p.1 with
  | none => exact ⟨_, rfl, by simp only [List.getD_cons_zero, List.getD_cons_succ]; omega⟩
  | some d => exact ⟨_, rfl, by simp only [List.getD_cons_zero, List.getD_cons_succ]; omega⟩
/-- The drift by what both say lies within that by one of them. -/
theorem bet_sum {a b : List (List Int)} (h : betE a b = 0) {f u : Int} (hs : sumE f u a = 0) : sumE f u (betL a b) = 0 ∧ sumL f u 2 a ≤ sumL f u 2 (betL a b) ∧ sumL f u 3 (betL a b) ≤ sumL f u 3 a ∧ sumL f u 4 a ≤ sumL f u 4 (betL a b) ∧ sumL f u 5 (betL a b) ≤ sumL f u 5 a := by
  obtain ⟨hv, _, hat⟩ := bet_ok h
  obtain ⟨va, ht, hc⟩ := sumE_ok hs
  have hfull := (covL_full va ht).1 (by have := covL_le va ht; omega)
  have hfull2 : covL f u (betL a b) = u - f := (covL_full hv ht).2 fun t h1 h2 => by
    have := hfull t h1 h2
    cases hx : atT a t with
    | none => rw [hx] at this; cases this
    | some x =>
      obtain ⟨y, hy, _⟩ := hat t x hx
      rw [hy]; rfl
  have hE : sumE f u (betL a b) = 0 := by
    rcases sumE_cases f u (betL a b) with ⟨_, h | h⟩ | ⟨_, _, _, h⟩ | ⟨h, _⟩
    · exact absurd hv h
    · exact absurd ht h
    · omega
    · exact h
  have e : f + ((u - f).toNat : Int) = u := by unfold VT at ht; omega
  have key : ∀ t, f ≤ t → t < f + ((u - f).toNat : Int) → ∃ x y, atT a t = some x ∧ atT (betL a b) t = some y ∧ x.getD 2 0 ≤ y.getD 2 0 ∧ y.getD 3 0 ≤ x.getD 3 0 ∧ x.getD 4 0 ≤ y.getD 4 0 ∧ y.getD 5 0 ≤ x.getD 5 0 := by
    intro t h1 h2
    have := hfull t h1 (by omega)
    cases hx : atT a t with
    | none => rw [hx] at this; cases this
    | some x =>
      obtain ⟨y, hy, h⟩ := hat t x hx
      exact ⟨x, y, rfl, hy, h⟩
  have s2 := sumL_minutes va hv 2 (u - f).toNat f (fun t h1 h2 => by obtain ⟨x, y, hx, hy, h⟩ := key t h1 h2; rw [hx, hy]; exact h.1)
  have s3 := sumL_minutes hv va 3 (u - f).toNat f (fun t h1 h2 => by obtain ⟨x, y, hx, hy, h⟩ := key t h1 h2; rw [hx, hy]; exact h.2.1)
  have s4 := sumL_minutes va hv 4 (u - f).toNat f (fun t h1 h2 => by obtain ⟨x, y, hx, hy, h⟩ := key t h1 h2; rw [hx, hy]; exact h.2.2.1)
  have s5 := sumL_minutes hv va 5 (u - f).toNat f (fun t h1 h2 => by obtain ⟨x, y, hx, hy, h⟩ := key t h1 h2; rw [hx, hy]; exact h.2.2.2)
  rw [e] at s2 s3 s4 s5
  exact ⟨hE, s2, s3, s4, s5⟩
end Go.Proofs.Ytddfnokjnafdpaa
