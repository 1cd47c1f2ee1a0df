/- Several texts in one (wip/merge.py): XDriftV XDriftW XDriftY. -/
import Derived.Test.YtnijhjpaplihbaaGreatSeen
import Derived.Test.YtnijhjpaplihbaaGreatSySo
import Derived.Test.YtnijhjpaplihbaaGreatDesk6D
/-!
  What two forecasts say together.
-/
set_option linter.unusedVariables false
set_option maxRecDepth 100000
namespace Go.Proofs.YtnijhjpaplihbaaGreat
open Go Go.Sy

/-- The current that has a minute. -/
def atT (l : List (List Int)) (t : Int) : Option (List Int) := l.find? fun c => decide (c.getD 0 0 ≤ t) && decide (t < c.getD 1 0)
theorem atT_cons (c : List Int) (l : List (List Int)) (t : Int) : atT (c :: l) t = if c.getD 0 0 ≤ t ∧ t < c.getD 1 0 then some c else atT l t := by
  unfold atT
  rw [List.find?_cons]
  by_cases h : c.getD 0 0 ≤ t ∧ t < c.getD 1 0
  · rw [if_pos h, decide_eq_true h.1, decide_eq_true h.2]; rfl
  · rw [if_neg h]
    have : (decide (c.getD 0 0 ≤ t) && decide (t < c.getD 1 0)) = false := by
      simp only [Bool.and_eq_false_iff, decide_eq_false_iff_not]
      omega
    rw [this]
theorem atT_some {l : List (List Int)} {t : Int} {c : List Int} (h : atT l t = some c) : c ∈ l ∧ c.getD 0 0 ≤ t ∧ t < c.getD 1 0 := by
  unfold atT at h
  have := List.find?_some h
  simp only [Bool.and_eq_true, decide_eq_true_eq] at this
  exact ⟨List.mem_of_find?_eq_some h, this⟩
theorem atT_none {l : List (List Int)} {t : Int} : atT l t = none ↔ ∀ c ∈ l, ¬ (c.getD 0 0 ≤ t ∧ t < c.getD 1 0) := by
  unfold atT
  rw [List.find?_eq_none]
  simp only [Bool.and_eq_true, decide_eq_true_eq]
theorem mins_1 {t : Int} {c : List Int} : mins t (t + 1) c = if c.getD 0 0 ≤ t ∧ t < c.getD 1 0 then 1 else 0 := by
  unfold mins; split <;> omega
theorem sum_cons (f u : Int) (k : Nat) (c : List Int) (l : List (List Int)) : sumL f u k (c :: l) = mins f u c * c.getD k 0 + sumL f u k l := by simp [sumL]
theorem cov_cons (f u : Int) (c : List Int) (l : List (List Int)) : covL f u (c :: l) = mins f u c + covL f u l := by simp [covL]
theorem sum_after {t : Int} {k : Nat} : ∀ (e : Int) (l : List (List Int)), t < e → CL e l → sumL t (t + 1) k l = 0 ∧ covL t (t + 1) l = 0 ∧ atT l t = none
  | e, [], _, _ => ⟨rfl, rfl, rfl⟩
  | e, c :: l, h, hc => by
    have hco := hc.1
    unfold CO at hco
    obtain ⟨h1, h2, h3⟩ := sum_after (t := t) (k := k) (c.getD 1 0) l (by omega) hc.2
    have hn : ¬ (c.getD 0 0 ≤ t ∧ t < c.getD 1 0) := by omega
    rw [sum_cons, cov_cons, atT_cons, mins_1, if_neg hn, if_neg hn, h1, h2, h3]
    exact ⟨by omega, by omega, rfl⟩
/-- What a current says. -/
def vlA (k : Nat) : Option (List Int) → Int
  | some c => c.getD k 0
  | none => 0
theorem sum_at {t : Int} {k : Nat} : ∀ (e : Int) (l : List (List Int)), CL e l → sumL t (t + 1) k l = vlA k (atT l t) ∧ covL t (t + 1) l = if (atT l t).isSome then 1 else 0
  | e, [], _ => ⟨rfl, rfl⟩
  | e, c :: l, hc => by
    rw [sum_cons, cov_cons, atT_cons, mins_1]
    by_cases hn : c.getD 0 0 ≤ t ∧ t < c.getD 1 0
    · obtain ⟨h1, h2, h3⟩ := sum_after (t := t) (k := k) (c.getD 1 0) l hn.2 hc.2
      rw [if_pos hn, if_pos hn, h1, h2]
      exact ⟨by simp [vlA], rfl⟩
    · obtain ⟨h1, h2⟩ := sum_at (t := t) (k := k) (c.getD 1 0) l hc.2
      rw [if_neg hn, if_neg hn, h1, h2]
      exact ⟨by omega, by omega⟩
theorem sumL_minutes {l l' : List (List Int)} (hv : VC l) (hv' : VC l') (k : Nat) : ∀ (n : Nat) (f : Int), (∀ t, f ≤ t → t < f + n → vlA k (atT l t) ≤ vlA k (atT l' t)) → sumL f (f + n) k l ≤ sumL f (f + n) k l'
  | 0, f, _ => by
    rw [show f + ((0 : Nat) : Int) = f by omega, sumL_none, sumL_none]; exact Int.le_refl _
  | n + 1, f, h => by
    have ih := sumL_minutes hv hv' k n f fun t h1 h2 => h t h1 (by omega)
    have e : f + ((n + 1 : Nat) : Int) = (f + n) + 1 := by omega
    rw [e, sumL_add hv (show f ≤ f + n by omega) (show f + (n : Int) ≤ f + n + 1 by omega), sumL_add hv' (show f ≤ f + n by omega) (show f + (n : Int) ≤ f + n + 1 by omega), (sum_at 0 l hv.1).1, (sum_at 0 l' hv'.1).1]
    have := h (f + n) (by omega) (by omega)
    omega
theorem covL_all {l : List (List Int)} (hv : VC l) : ∀ (n : Nat) (f : Int), (∀ t, f ≤ t → t < f + n → (atT l t).isSome = true) → covL f (f + n) l = n
  | 0, f, _ => by rw [show f + ((0 : Nat) : Int) = f by omega, covL_none]; rfl
  | n + 1, f, h => by
    have ih := covL_all hv n f fun t h1 h2 => h t h1 (by omega)
    have e : f + ((n + 1 : Nat) : Int) = (f + n) + 1 := by omega
    rw [e, covL_add hv (show f ≤ f + n by omega) (show f + (n : Int) ≤ f + n + 1 by omega), (sum_at (k := 0) 0 l hv.1).2, ih, if_pos (h (f + n) (by omega) (by omega))]
    omega
theorem covL_full {l : List (List Int)} (hv : VC l) {f u : Int} (ht : VT f u) : covL f u l = u - f ↔ ∀ t, f ≤ t → t < u → (atT l t).isSome = true := by
  have e : f + ((u - f).toNat : Int) = u := by unfold VT at ht; omega
  constructor
  · intro h t h1 h2
    unfold VT at ht
    have a := covL_add hv (show f ≤ t by omega) (show t ≤ u by omega)
    have b := covL_add hv (show t ≤ t + 1 by omega) (show t + 1 ≤ u by omega)
    have c := covL_le hv (show VT f t by unfold VT; omega)
    have d := covL_le hv (show VT (t + 1) u by unfold VT; omega)
    have g := (sum_at (t := t) (k := 0) 0 l hv.1).2
    cases hs : (atT l t).isSome with
    | true => rfl
    | false =>
      rw [hs] at g
      simp only [Bool.false_eq_true, if_false] at g
      omega
  · intro h
    have := covL_all hv (u - f).toNat f (fun t h1 h2 => h t h1 (by omega))
    rw [e] at this
    rw [this]
    unfold VT at ht
    omega

/-! ### rising times -/
theorem dd_after : ∀ (l : List Int) (p : Int), l.Pairwise (fun a b => a ≤ b) → (∀ x ∈ l, p ≤ x) → (dd (some p) l).Pairwise (fun a b => a < b) ∧ ∀ x, x ∈ dd (some p) l ↔ x ∈ l ∧ p < x
  | [], p, _, _ => by simp [dd]
  | y :: l, p, hs, hp => by
    have hy := hp y List.mem_cons_self
    rw [List.pairwise_cons] at hs
    unfold dd
    by_cases h : p = y
    · subst h
      rw [if_pos rfl]
      obtain ⟨h1, h2⟩ := dd_after l p hs.2 (fun x hx => hp x (List.mem_cons_of_mem _ hx))
      refine ⟨h1, fun x => ?_⟩
      rw [h2, List.mem_cons]
      constructor
      · rintro ⟨h3, h4⟩; exact ⟨.inr h3, h4⟩
      · rintro ⟨rfl | h3, h4⟩
        · omega
        · exact ⟨h3, h4⟩
    · rw [if_neg (by simpa using h)]
      obtain ⟨h1, h2⟩ := dd_after l y hs.2 hs.1
      refine ⟨List.pairwise_cons.2 ⟨fun x hx => ((h2 x).1 hx).2, h1⟩, fun x => ?_⟩
      rw [List.mem_cons, List.mem_cons, h2]
      constructor
      · rintro (rfl | ⟨h3, h4⟩)
        · exact ⟨.inl rfl, by omega⟩
        · exact ⟨.inr h3, by omega⟩
      · rintro ⟨rfl | h3, h4⟩
        · exact .inl rfl
        · have := hs.1 x h3
          by_cases e : x = y
          · exact .inl e
          · exact .inr ⟨h3, by omega⟩
theorem dd_all {l : List Int} (hs : l.Pairwise fun a b => a ≤ b) : (dd none l).Pairwise (fun a b => a < b) ∧ ∀ x, x ∈ dd none l ↔ x ∈ l := by
  cases l with
  | nil => simp [dd]
  | cons y l =>
    rw [List.pairwise_cons] at hs
    have e : dd none (y :: l) = y :: dd (some y) l := by
      rw [show dd none (y :: l) = if (none : Option Int) = some y then dd (some y) l else y :: dd (some y) l from rfl, if_neg (by simp)]
    rw [e]
    obtain ⟨h1, h2⟩ := dd_after l y hs.2 hs.1
    refine ⟨List.pairwise_cons.2 ⟨fun x hx => ((h2 x).1 hx).2, h1⟩, fun x => ?_⟩
    rw [List.mem_cons, List.mem_cons, h2]
    constructor
    · rintro (rfl | ⟨h3, _⟩)
      · exact .inl rfl
      · exact .inr h3
    · rintro (rfl | h3)
      · exact .inl rfl
      · have := hs.1 x h3
        by_cases e : x = y
        · exact .inl e
        · exact .inr ⟨h3, by omega⟩
/-- The ends of currents. -/
def endsL (l : List (List Int)) : List Int := l.flatMap fun c => [c.getD 0 0, c.getD 1 0]
/-- The times at which something begins or ends. -/
def bT (a b : List (List Int)) : List Int := dd none (isort leI (endsL (a ++ b)))
theorem isortI_sorted (l : List Int) : (isort leI l).Pairwise fun a b => a ≤ b := by
  have := isort_sorted leI_total leI_trans l
  exact this.imp fun h => by simpa [leI] using h
theorem bT_rise (a b : List (List Int)) : (bT a b).Pairwise fun x y => x < y := (dd_all (isortI_sorted _)).1
theorem mem_bT {a b : List (List Int)} {x : Int} : x ∈ bT a b ↔ ∃ c, (c ∈ a ∨ c ∈ b) ∧ (x = c.getD 0 0 ∨ x = c.getD 1 0) := by
  unfold bT
  rw [(dd_all (isortI_sorted _)).2, isort_mem, endsL, List.mem_flatMap]
  constructor
  · rintro ⟨c, hc, h⟩
    exact ⟨c, List.mem_append.1 hc, by simpa using h⟩
  · rintro ⟨c, hc, h⟩
    exact ⟨c, List.mem_append.2 hc, by simpa using h⟩
theorem rise_unique : ∀ {l l' : List Int}, l.Pairwise (fun x y => x < y) → l'.Pairwise (fun x y => x < y) → (∀ x, x ∈ l ↔ x ∈ l') → l = l'
  | [], [], _, _, _ => rfl
  | [], y :: l', _, _, h => by have := (h y).2 List.mem_cons_self; cases this
  | x :: l, [], _, _, h => by have := (h x).1 List.mem_cons_self; cases this
  | x :: l, y :: l', h1, h2, h => by
    rw [List.pairwise_cons] at h1 h2
    have hxy : x = y := by
      have a := (h x).1 List.mem_cons_self
      have b := (h y).2 List.mem_cons_self
      rcases List.mem_cons.1 a with e | a
      · exact e
      · rcases List.mem_cons.1 b with e | b
        · exact e.symm
        · have := h1.1 y b
          have := h2.1 x a
          omega
    subst hxy
    congr 1
    refine rise_unique h1.2 h2.2 fun z => ?_
    constructor
    · intro hz
      have := (h z).1 (List.mem_cons_of_mem _ hz)
      rcases List.mem_cons.1 this with e | k
      · have := h1.1 z hz; omega
      · exact k
    · intro hz
      have := (h z).2 (List.mem_cons_of_mem _ hz)
      rcases List.mem_cons.1 this with e | k
      · have := h2.1 z hz; omega
      · exact k
theorem bT_symm (a b : List (List Int)) : bT a b = bT b a := rise_unique (bT_rise a b) (bT_rise b a) fun x => by
  rw [mem_bT, mem_bT]
  constructor <;> rintro ⟨c, h, k⟩ <;> exact ⟨c, h.symm, k⟩
/-- Neighbouring times. -/
def prs : List Int → List (Int × Int)
  | [] => []
  | [_] => []
  | x :: y :: r => (x, y) :: prs (y :: r)
theorem prs_mem : ∀ {l : List Int}, l.Pairwise (fun x y => x < y) → ∀ {p : Int × Int}, p ∈ prs l → p.1 ∈ l ∧ p.2 ∈ l ∧ p.1 < p.2 ∧ ∀ x ∈ l, x ≤ p.1 ∨ p.2 ≤ x
  | [], _, p, h => by cases h
  | [_], _, p, h => by cases h
  | x :: y :: r, hr, p, h => by
    have hr2 := List.pairwise_cons.1 hr
    have hr3 := List.pairwise_cons.1 hr2.2
    unfold prs at h
    rcases List.mem_cons.1 h with rfl | h
    · refine ⟨List.mem_cons_self, List.mem_cons_of_mem _ List.mem_cons_self, hr2.1 y List.mem_cons_self, fun z hz => ?_⟩
      rcases List.mem_cons.1 hz with rfl | hz
      · exact .inl (Int.le_refl _)
      · rcases List.mem_cons.1 hz with rfl | hz
        · exact .inr (Int.le_refl _)
        · exact .inr (Int.le_of_lt (hr3.1 z hz))
    · obtain ⟨h1, h2, h3, h4⟩ := prs_mem hr2.2 h
      refine ⟨List.mem_cons_of_mem _ h1, List.mem_cons_of_mem _ h2, h3, fun z hz => ?_⟩
      rcases List.mem_cons.1 hz with rfl | hz
      · exact .inl (Int.le_of_lt (hr2.1 _ h1))
      · exact h4 z hz
/-- A time between the first and the last one is in a part. -/
theorem prs_find : ∀ {l : List Int}, l.Pairwise (fun x y => x < y) → ∀ {t x y : Int}, x ∈ l → y ∈ l → x ≤ t → t < y → ∃ p ∈ prs l, p.1 ≤ t ∧ t < p.2
  | [], _, t, x, y, h, _, _, _ => by cases h
  | [z], _, t, x, y, h, k, h1, h2 => by
    have a := List.mem_singleton.1 h
    have b := List.mem_singleton.1 k
    omega
  | z :: z' :: r, hr, t, x, y, h, k, h1, h2 => by
    have hr2 := List.pairwise_cons.1 hr
    unfold prs
    by_cases ht : t < z'
    · refine ⟨(z, z'), List.mem_cons_self, ?_, ht⟩
      rcases List.mem_cons.1 h with rfl | h
      · exact h1
      · rcases List.mem_cons.1 h with rfl | h
        · simp only []; omega
        · have := (List.pairwise_cons.1 hr2.2).1 x h
          simp only []; omega
    · have hy : y ∈ z' :: r := by
        rcases List.mem_cons.1 k with rfl | k
        · have := hr2.1 z' List.mem_cons_self
          omega
        · exact k
      obtain ⟨p, hp, h3⟩ := prs_find hr2.2 (t := t) (x := z') List.mem_cons_self hy (by omega) h2
      exact ⟨p, List.mem_cons_of_mem _ hp, h3⟩
end Go.Proofs.YtnijhjpaplihbaaGreat

/-!
  What two forecasts say together: its rows, and what it says at a minute.
-/
set_option linter.unusedVariables false
set_option maxRecDepth 100000
namespace Go.Proofs.YtnijhjpaplihbaaGreat
open Go Go.Sy

/-- What both say at a time, as a current from f to u. -/
def bRow (c d : Option (List Int)) (f u : Int) : Option (List Int) :=
  match c, d with
  | some c, some d => some [f, u, max (c.getD 2 0) (d.getD 2 0), min (c.getD 3 0) (d.getD 3 0), max (c.getD 4 0) (d.getD 4 0), min (c.getD 5 0) (d.getD 5 0)]
  | some c, none => some [f, u, c.getD 2 0, c.getD 3 0, c.getD 4 0, c.getD 5 0]
  | none, some d => some [f, u, d.getD 2 0, d.getD 3 0, d.getD 4 0, d.getD 5 0]
  | none, none => none
/-- They do not contradict one another. -/
def bOk (c d : Option (List Int)) : Prop :=
  match c, d with
  | some c, some d => max (c.getD 2 0) (d.getD 2 0) ≤ min (c.getD 3 0) (d.getD 3 0) ∧ max (c.getD 4 0) (d.getD 4 0) ≤ min (c.getD 5 0) (d.getD 5 0)
  | _, _ => True
instance decBOk : (c d : Option (List Int)) → Decidable (bOk c d)
  | some c, some d => by unfold bOk; infer_instance
  | some _, none => .isTrue trivial
  | none, some _ => .isTrue trivial
  | none, none => .isTrue trivial
theorem bRow_symm (c d : Option (List Int)) (f u : Int) : bRow c d f u = bRow d c f u := by
  cases c <;> cases d <;> first | rfl | skip
  unfold bRow
  simp only [Int.max_comm, Int.min_comm]
theorem bOk_symm (c d : Option (List Int)) : bOk c d ↔ bOk d c := by
  cases c <;> cases d <;> first | exact Iff.rfl | skip
  unfold bOk
  simp only []
  omega
/-- The currents of both. -/
def bAll (a b : List (List Int)) : List (Int × Int) → List (List Int)
  | [] => []
  | p :: r => (bRow (atT a p.1) (atT b p.1) p.1 p.2).toList ++ bAll a b r
def bLie (a b : List (List Int)) : Prop := ∃ p ∈ prs (bT a b), ¬ bOk (atT a p.1) (atT b p.1)
instance (a b : List (List Int)) : Decidable (bLie a b) := by unfold bLie; infer_instance
def betE (a b : List (List Int)) : Int := if ¬ VC a ∨ ¬ VC b then 1 else if bLie a b then 18 else if (bAll a b (prs (bT a b))).length > 60 then 2 else 0
def betL (a b : List (List Int)) : List (List Int) := if betE a b = 0 then bAll a b (prs (bT a b)) else []
theorem bAll_symm (a b : List (List Int)) : ∀ l, bAll a b l = bAll b a l
  | [] => rfl
  | p :: r => by unfold bAll; rw [bRow_symm, bAll_symm a b r]
theorem bLie_symm (a b : List (List Int)) : bLie a b ↔ bLie b a := by
  unfold bLie
  rw [bT_symm]
  constructor <;> rintro ⟨p, hp, h⟩ <;> exact ⟨p, hp, fun k => h ((bOk_symm _ _).1 k)⟩
theorem betE_symm (a b : List (List Int)) : betE a b = betE b a := by
  unfold betE
  have h1 : (¬ VC a ∨ ¬ VC b) ↔ (¬ VC b ∨ ¬ VC a) := Or.comm
  have h2 := bLie_symm a b
  rw [bT_symm a b, bAll_symm a b]
  by_cases g1 : ¬ VC a ∨ ¬ VC b
  · rw [if_pos g1, if_pos (h1.1 g1)]
  · rw [if_neg g1, if_neg (fun k => g1 (h1.2 k))]
    by_cases g2 : bLie a b
    · rw [if_pos g2, if_pos (h2.1 g2)]
    · rw [if_neg g2, if_neg (fun k => g2 (h2.2 k))]
theorem betL_symm (a b : List (List Int)) : betL a b = betL b a := by
  unfold betL
  rw [betE_symm a b, bT_symm a b, bAll_symm a b]
theorem betE_cases (a b : List (List Int)) : betE a b = 1 ∨ betE a b = 18 ∨ betE a b = 2 ∨ (betE a b = 0 ∧ VC a ∧ VC b ∧ ¬ bLie a b ∧ (bAll a b (prs (bT a b))).length ≤ 60 ∧ betL a b = bAll a b (prs (bT a b))) := by
  unfold betL betE
  by_cases g1 : ¬ VC a ∨ ¬ VC b
  · rw [if_pos g1]; exact .inl rfl
  · rw [if_neg g1]
    by_cases g2 : bLie a b
    · rw [if_pos g2]; exact .inr (.inl rfl)
    · rw [if_neg g2]
      by_cases g3 : (bAll a b (prs (bT a b))).length > 60
      · rw [if_pos g3]; exact .inr (.inr (.inl rfl))
      · rw [if_neg g3]
        exact .inr (.inr (.inr ⟨rfl, Decidable.byContradiction fun k => g1 (.inl k), Decidable.byContradiction fun k => g1 (.inr k), g2, by omega, if_pos rfl⟩))
/-- Both as a current of their own. -/
theorem bRow_ok {c d : Option (List Int)} {f u e : Int} {r : List Int} (hc : ∀ x, c = some x → ∃ e, CO e x) (hd : ∀ x, d = some x → ∃ e, CO e x) (ho : bOk c d) (hr : bRow c d f u = some r) (h1 : e ≤ f) (h2 : f < u) (h3 : u ≤ 10000000) : CO e r ∧ r.getD 0 0 = f ∧ r.getD 1 0 = u ∧ r.length = 6 := by
  cases c with
  | none => cases d with
    | none => cases hr
    | some d =>
      cases hr
      obtain ⟨e', h⟩ := hd d rfl
      unfold CO at *
      simp only [List.getD_cons_zero, List.getD_cons_succ]
      exact ⟨by omega, trivial, trivial, rfl⟩
  | some c => cases d with
    | none =>
      cases hr
      obtain ⟨e', h⟩ := hc c rfl
      unfold CO at *
      simp only [List.getD_cons_zero, List.getD_cons_succ]
      exact ⟨by omega, trivial, trivial, rfl⟩
    | some d =>
      cases hr
      obtain ⟨e', h⟩ := hc c rfl
      obtain ⟨e2, g⟩ := hd d rfl
      unfold bOk at ho
      unfold CO at *
      simp only [List.getD_cons_zero, List.getD_cons_succ] at *
      exact ⟨by omega, trivial, trivial, rfl⟩
theorem atT_co {a : List (List Int)} (hv : VC a) {t : Int} : ∀ x, atT a t = some x → ∃ e, CO e x := fun x h => ⟨0, CL_mem hv.1 x (atT_some h).1⟩
theorem bAll_cl {a b : List (List Int)} (ha : VC a) (hb : VC b) : ∀ (l : List (Int × Int)) (e : Int), l.Pairwise (fun p q => p.2 ≤ q.1) → (∀ p ∈ l, e ≤ p.1 ∧ p.1 < p.2 ∧ p.2 ≤ 10000000 ∧ bOk (atT a p.1) (atT b p.1)) → CL e (bAll a b l) ∧ ∀ r ∈ bAll a b l, r.length = 6
  | [], e, _, _ => ⟨trivial, fun r h => by cases h⟩
  | p :: l, e, hw, h => by
    rw [List.pairwise_cons] at hw
    obtain ⟨h1, h2, h3, h4⟩ := h p List.mem_cons_self
    unfold bAll
    cases hr : bRow (atT a p.1) (atT b p.1) p.1 p.2 with
    | none => exact bAll_cl ha hb l e hw.2 fun q hq => h q (List.mem_cons_of_mem _ hq)
    | some r =>
      obtain ⟨g1, g2, g3, g4⟩ := bRow_ok (atT_co ha) (atT_co hb) h4 hr h1 h2 h3
      obtain ⟨k1, k2⟩ := bAll_cl ha hb l p.2 hw.2 fun q hq => by
        have := h q (List.mem_cons_of_mem _ hq)
        exact ⟨hw.1 q hq, this.2⟩
      refine ⟨⟨g1, by rw [g3]; exact k1⟩, fun x hx => ?_⟩
      rcases List.mem_cons.1 hx with rfl | hx
      · exact g4
      · exact k2 x hx
theorem prs_rise : ∀ {l : List Int}, l.Pairwise (fun x y => x < y) → (prs l).Pairwise fun p q => p.2 ≤ q.1
  | [], _ => List.Pairwise.nil
  | [_], _ => List.Pairwise.nil
  | x :: y :: r, h => by
    have h2 := List.pairwise_cons.1 h
    unfold prs
    refine List.pairwise_cons.2 ⟨fun q hq => ?_, prs_rise h2.2⟩
    have := (prs_mem h2.2 hq).1
    rcases List.mem_cons.1 this with e | k
    · simp only []; omega
    · have := (List.pairwise_cons.1 h2.2).1 _ k
      simp only []; omega
theorem bT_bd {a b : List (List Int)} (ha : VC a) (hb : VC b) {x : Int} (h : x ∈ bT a b) : 0 ≤ x ∧ x ≤ 10000000 := by
  obtain ⟨c, hc, h⟩ := mem_bT.1 h
  have : CO 0 c := by rcases hc with hc | hc; exact CL_mem ha.1 c hc; exact CL_mem hb.1 c hc
  unfold CO at this
  omega
/-- In a part between neighbouring times a forecast says the same. -/
theorem atT_part {a b : List (List Int)} {p : Int × Int} (hp : p ∈ prs (bT a b)) {t : Int} (h1 : p.1 ≤ t) (h2 : t < p.2) : atT a t = atT a p.1 ∧ atT b t = atT b p.1 := by
  obtain ⟨_, _, h3, h4⟩ := prs_mem (bT_rise a b) hp
  have key : ∀ l : List (List Int), (∀ c ∈ l, c ∈ a ∨ c ∈ b) → atT l t = atT l p.1 := by
    intro l
    induction l with
    | nil => intro _; rfl
    | cons c l ih =>
      intro hl
      rw [atT_cons, atT_cons, ih fun d hd => hl d (List.mem_cons_of_mem _ hd)]
      have e0 := h4 (c.getD 0 0) (mem_bT.2 ⟨c, hl c List.mem_cons_self, .inl rfl⟩)
      have e1 := h4 (c.getD 1 0) (mem_bT.2 ⟨c, hl c List.mem_cons_self, .inr rfl⟩)
      by_cases hh : c.getD 0 0 ≤ t ∧ t < c.getD 1 0
      · rw [if_pos hh, if_pos (by omega)]
      · rw [if_neg hh, if_neg (by omega)]
  exact ⟨key a fun c hc => .inl hc, key b fun c hc => .inr hc⟩
theorem bAll_at {a b : List (List Int)} (ha : VC a) (hb : VC b) : ∀ (l : List (Int × Int)), l.Pairwise (fun p q => p.2 ≤ q.1) → (∀ p ∈ l, p.1 < p.2) → ∀ {p : Int × Int} {t : Int}, p ∈ l → p.1 ≤ t → t < p.2 → atT (bAll a b l) t = bRow (atT a p.1) (atT b p.1) p.1 p.2
  | [], _, _, p, t, h, _, _ => by cases h
  | q :: l, hw, hlt, p, t, h, h1, h2 => by
    rw [List.pairwise_cons] at hw
    have skip : ∀ r, bRow (atT a q.1) (atT b q.1) q.1 q.2 = some r → r.getD 0 0 = q.1 ∧ r.getD 1 0 = q.2 := by
      intro r hr
      unfold bRow at hr
      split at hr
      · cases hr; exact ⟨rfl, rfl⟩
      · cases hr; exact ⟨rfl, rfl⟩
      · cases hr; exact ⟨rfl, rfl⟩
      · cases hr
    have after : ∀ (l : List (Int × Int)), (∀ p ∈ l, t < p.1) → atT (bAll a b l) t = none := by
      intro l
      induction l with
      | nil => intro _; rfl
      | cons p l ih =>
        intro hl
        have hp := hl p List.mem_cons_self
        have ih := ih fun q hq => hl q (List.mem_cons_of_mem _ hq)
        unfold bAll
        cases hr : bRow (atT a p.1) (atT b p.1) p.1 p.2 with
        | none => exact ih
        | some r =>
          have hr0 : r.getD 0 0 = p.1 := by
            unfold bRow at hr
            split at hr
            · cases hr; rfl
            · cases hr; rfl
            · cases hr; rfl
            · cases hr
          show atT (r :: bAll a b l) t = none
          rw [atT_cons, if_neg (by omega)]
          exact ih
    unfold bAll
    rcases List.mem_cons.1 h with rfl | h
    · cases hr : bRow (atT a p.1) (atT b p.1) p.1 p.2 with
      | none =>
        exact after l fun q hq => by have := hw.1 q hq; omega
      | some r =>
        obtain ⟨r0, r1⟩ := skip r hr
        show atT (r :: bAll a b l) t = some r
        rw [atT_cons, if_pos (by omega)]
    · have hq := hw.1 p h
      have ih := bAll_at ha hb l hw.2 (fun p hp => hlt p (List.mem_cons_of_mem _ hp)) h h1 h2
      cases hr : bRow (atT a q.1) (atT b q.1) q.1 q.2 with
      | none => exact ih
      | some r =>
        obtain ⟨r0, r1⟩ := skip r hr
        show atT (r :: bAll a b l) t = _
        rw [atT_cons, if_neg (by omega)]
        exact ih
/-- What both say together is a forecast; and where one of them says something, it says something that fits. -/
theorem bet_ok {a b : List (List Int)} (h : betE a b = 0) : VC (betL a b) ∧ (∀ r ∈ betL a b, r.length = 6) ∧ ∀ t x, atT a t = some x → ∃ y, atT (betL a b) t = some y ∧ x.getD 2 0 ≤ y.getD 2 0 ∧ y.getD 3 0 ≤ x.getD 3 0 ∧ x.getD 4 0 ≤ y.getD 4 0 ∧ y.getD 5 0 ≤ x.getD 5 0 := by
  rcases betE_cases a b with g | g | g | ⟨_, ha, hb, hl, h60, e⟩
  · rw [h] at g; cases g
  · rw [h] at g; cases g
  · rw [h] at g; cases g
  have hr := prs_rise (bT_rise a b)
  have hm : ∀ p ∈ prs (bT a b), 0 ≤ p.1 ∧ p.1 < p.2 ∧ p.2 ≤ 10000000 ∧ bOk (atT a p.1) (atT b p.1) := by
    intro p hp
    obtain ⟨h1, h2, h3, h4⟩ := prs_mem (bT_rise a b) hp
    exact ⟨(bT_bd ha hb h1).1, h3, (bT_bd ha hb h2).2, Decidable.byContradiction fun k => hl ⟨p, hp, k⟩⟩
  obtain ⟨c1, c2⟩ := bAll_cl ha hb _ 0 hr hm
  rw [e]
  refine ⟨⟨c1, h60⟩, c2, fun t x hx => ?_⟩
  obtain ⟨x1, x2, x3⟩ := atT_some hx
  obtain ⟨p, hp, p1, p2⟩ := prs_find (bT_rise a b) (t := t) (mem_bT.2 ⟨x, .inl x1, .inl rfl⟩) (mem_bT.2 ⟨x, .inl x1, .inr rfl⟩) x2 x3
  rw [bAll_at ha hb _ hr (fun q hq => (hm q hq).2.1) hp p1 p2]
  rw [← (atT_part hp p1 p2).1, hx]
  cases atT b p.1 with
  | none => exact ⟨_, rfl, by simp only [List.getD_cons_zero, List.getD_cons_succ]; omega⟩
  | some d => exact ⟨_, rfl, by simp only [List.getD_cons_zero, List.getD_cons_succ]; omega⟩
/-- The drift by what both say lies within that by one of them. -/
theorem bet_sum {a b : List (List Int)} (h : betE a b = 0) {f u : Int} (hs : sumE f u a = 0) : sumE f u (betL a b) = 0 ∧ sumL f u 2 a ≤ sumL f u 2 (betL a b) ∧ sumL f u 3 (betL a b) ≤ sumL f u 3 a ∧ sumL f u 4 a ≤ sumL f u 4 (betL a b) ∧ sumL f u 5 (betL a b) ≤ sumL f u 5 a := by
  obtain ⟨hv, _, hat⟩ := bet_ok h
  obtain ⟨va, ht, hc⟩ := sumE_ok hs
  have hfull := (covL_full va ht).1 (by have := covL_le va ht; omega)
  have hfull2 : covL f u (betL a b) = u - f := (covL_full hv ht).2 fun t h1 h2 => by
    have := hfull t h1 h2
    cases hx : atT a t with
    | none => rw [hx] at this; cases this
    | some x =>
      obtain ⟨y, hy, _⟩ := hat t x hx
      rw [hy]; rfl
  have hE : sumE f u (betL a b) = 0 := by
    rcases sumE_cases f u (betL a b) with ⟨_, h | h⟩ | ⟨_, _, _, h⟩ | ⟨h, _⟩
    · exact absurd hv h
    · exact absurd ht h
    · omega
    · exact h
  have e : f + ((u - f).toNat : Int) = u := by unfold VT at ht; omega
  have key : ∀ t, f ≤ t → t < f + ((u - f).toNat : Int) → ∃ x y, atT a t = some x ∧ atT (betL a b) t = some y ∧ x.getD 2 0 ≤ y.getD 2 0 ∧ y.getD 3 0 ≤ x.getD 3 0 ∧ x.getD 4 0 ≤ y.getD 4 0 ∧ y.getD 5 0 ≤ x.getD 5 0 := by
    intro t h1 h2
    have := hfull t h1 (by omega)
    cases hx : atT a t with
    | none => rw [hx] at this; cases this
    | some x =>
      obtain ⟨y, hy, h⟩ := hat t x hx
      exact ⟨x, y, rfl, hy, h⟩
  have s2 := sumL_minutes va hv 2 (u - f).toNat f (fun t h1 h2 => by obtain ⟨x, y, hx, hy, h⟩ := key t h1 h2; rw [hx, hy]; exact h.1)
  have s3 := sumL_minutes hv va 3 (u - f).toNat f (fun t h1 h2 => by obtain ⟨x, y, hx, hy, h⟩ := key t h1 h2; rw [hx, hy]; exact h.2.1)
  have s4 := sumL_minutes va hv 4 (u - f).toNat f (fun t h1 h2 => by obtain ⟨x, y, hx, hy, h⟩ := key t h1 h2; rw [hx, hy]; exact h.2.2.1)
  have s5 := sumL_minutes hv va 5 (u - f).toNat f (fun t h1 h2 => by obtain ⟨x, y, hx, hy, h⟩ := key t h1 h2; rw [hx, hy]; exact h.2.2.2)
  rw [e] at s2 s3 s4 s5
  exact ⟨hE, s2, s3, s4, s5⟩
end Go.Proofs.YtnijhjpaplihbaaGreat

/-!
  The loops of drift.Better.
-/
set_option linter.unusedVariables false
set_option maxRecDepth 100000
namespace Go.Proofs.YtnijhjpaplihbaaGreat
open Go Go.Sy

theorem fits_le {b n : Nat} (hb : b ≤ 100) (hn : n ≤ 1000) : fitsA b n := by
  unfold fitsA
  have := Nat.mul_le_mul hn hb
  simp only [maxLen]
  omega
def endsR (l : List (List Int)) : List (List Int) := l.flatMap fun c => [[c.getD 0 0], [c.getD 1 0]]
theorem endsR_len (l : List (List Int)) : (endsR l).length = 2 * l.length := by
  induction l with
  | nil => rfl
  | cons c l ih =>
    have : (endsR (c :: l)).length = 2 + (endsR l).length := by simp [endsR]; omega
    rw [this, ih, List.length_cons]; omega
theorem nums_endsR (l : List (List Int)) : nums (endsR l) = endsL l := by
  induction l with
  | nil => rfl
  | cons c l ih =>
    show c.getD 0 0 :: c.getD 1 0 :: nums (endsR l) = c.getD 0 0 :: c.getD 1 0 :: endsL l
    rw [ih]
theorem bet_l0 (a b : List (List Int)) (ha : a.length ≤ 60) (hb : b.length ≤ 60) : loopOk (drift_Better_l0_step a b) (drift_Better_l0_init a b) ∧ gr (drift_Better_l0 a b).snd 1 = endsR (a ++ b) := by
  have hl : ([] ++ a ++ b).length ≤ 120 := by simp; omega
  have key := loop_fold (σ := Unit) (step := drift_Better_l0_step a b) ([] ++ a ++ b).length (fun i _ => [.i i, .r (endsR (([] ++ a ++ b).take i))]) (fun _ s => s) (fun _ _ => True) 1 (fun _ => [.i ([] ++ a ++ b).length, .r (endsR ([] ++ a ++ b))])
    (fun _ _ _ _ => trivial)
    (fun i s hi _ => by
      have e : endsR (([] ++ a ++ b).take (i + 1)) = endsR (([] ++ a ++ b).take i) ++ drift_Better_s0 a b [.i i, .r (endsR (([] ++ a ++ b).take i))] := by
        unfold endsR drift_Better_s0
        rw [take_succ' hi, List.flatMap_append]
        simp only [gi_z, Int.toNat_natCast, List.flatMap_cons, List.flatMap_nil, List.append_nil]
      have e2 : (drift_Better_s0 a b [.i i, .r (endsR (([] ++ a ++ b).take i))]).length = 2 := rfl
      have e3 : (endsR (([] ++ a ++ b).take i)).length ≤ 240 := by rw [endsR_len, List.length_take]; omega
      unfold drift_Better_l0_step
      rw [e]
      simp only [gi_z, gr_1, gr_z, dlt hi, guardP_pos (inR_of hi), wrap_succ (show i < 4611686018427387904 by omega)]
      rw [guardP_pos (fits_le (by decide) (by rw [e2]; omega))])
    (fun s _ => by
      unfold drift_Better_l0_step
      simp only [gi_z, gr_1, gr_z, dnlt, List.take_length]) (s := ()) trivial
  refine ⟨key.1, ?_⟩
  have e : drift_Better_l0 a b = _ := key.2.1
  rw [e]
  simp only [gr_1, gr_z]
  rfl
/-- The times, as a row. -/
noncomputable def tR (a b : List (List Int)) : List (List Int) := compNums (sortNums (gr (drift_Better_l0 a b).snd 1))
theorem getD_ofNums (l : List Int) (i : Nat) : ((ofNums l).getD i []).getD 0 0 = l.getD i 0 := by
  unfold ofNums
  by_cases h : i < l.length
  · simp [List.getD_eq_getElem?_getD, List.getElem?_eq_getElem h]
  · simp [List.getD_eq_getElem?_getD, List.getElem?_eq_none (show l.length ≤ i by omega)]
theorem tR_is (a b : List (List Int)) (ha : a.length ≤ 60) (hb : b.length ≤ 60) : (∀ i, i < (bT a b).length → ((tR a b).getD i []).getD 0 0 = (bT a b).getD i 0) ∧ compLen (sortNums (gr (drift_Better_l0 a b).snd 1)) = ((bT a b).length : Int) ∧ (bT a b).length ≤ (tR a b).length ∧ (bT a b).length ≤ 240 := by
  have h0 := (bet_l0 a b ha hb).2
  have e : dd none (nums (sortNums (gr (drift_Better_l0 a b).snd 1))) = bT a b := by
    rw [h0]; unfold sortNums bT; rw [nums_ofNums, nums_endsR]
  have hlen : (bT a b).length ≤ (nums (sortNums (gr (drift_Better_l0 a b).snd 1))).length := by rw [← e]; exact dd_length _ _
  have h240 : (nums (sortNums (gr (drift_Better_l0 a b).snd 1))).length ≤ 240 := by
    rw [h0]; unfold sortNums
    rw [nums_ofNums, isort_length, nums_endsR]
    have : (endsL (a ++ b)).length = (endsR (a ++ b)).length := by rw [← nums_endsR]; simp [nums]
    rw [this, endsR_len, List.length_append]; omega
  refine ⟨fun i hi => ?_, ?_, ?_, by omega⟩
  · unfold tR compNums
    rw [getD_ofNums, e]
    simp [List.getD_eq_getElem?_getD, List.getElem?_append_left hi]
  · unfold compLen; rw [e]
  · unfold tR compNums
    rw [e]
    simp [ofNums]
/-- A current has some of the minutes from f to u. -/
def cvT (f u : Int) (c : List Int) : Bool := decide (min (c.getD 1 0) u - max (c.getD 0 0) f > 0)
theorem el6 {el : List Int} (h : el.length = 6) : [el.getD 0 0, el.getD 1 0, el.getD 2 0, el.getD 3 0, el.getD 4 0, el.getD 5 0] = el := by
  match el, h with
  | [_, _, _, _, _, _], _ => rfl
theorem wrapD {x y z w : Int} (h1 : 0 ≤ x ∧ x ≤ 10000000) (h2 : 0 ≤ y ∧ y ≤ 10000000) (h3 : 0 ≤ z ∧ z ≤ 10000000) (h4 : 0 ≤ w ∧ w ≤ 10000000) : IntKind.i64.wrap (imin x y - imax z w) = min x y - max z w := by
  rw [imin_min, imax_max]
  exact i64_wrap (by omega)
section
variable {a b : List (List Int)} (ha : VC a) (hb : VC b) (ha6 : ∀ c ∈ a, c.length = 6) (hb6 : ∀ c ∈ b, c.length = 6)
theorem co_bd {l : List (List Int)} (hv : VC l) {c : List Int} (hc : c ∈ l) : (0 ≤ c.getD 1 0 ∧ c.getD 1 0 ≤ 10000000) ∧ (0 ≤ c.getD 0 0 ∧ c.getD 0 0 ≤ 10000000) := by
  have := CL_mem hv.1 c hc
  unfold CO at this
  omega
include ha hb in
theorem tR_at (i : Nat) (h1 : 1 ≤ i) (h : i < (bT a b).length) (v : Int) (r : List (List Int)) :
    ((tR a b).getD (shI none (gi [.i v, .i i, .r r] 1)).toNat []).getD 0 0 = (bT a b).getD i 0 ∧ ((tR a b).getD (shI none (IntKind.i64.wrap (gi [.i v, .i i, .r r] 1 - (1 : Int)))).toNat []).getD 0 0 = (bT a b).getD (i - 1) 0 := by
  obtain ⟨t1, t2, t3, t4⟩ := tR_is a b ha.2 hb.2
  have e : IntKind.i64.wrap ((i : Int) - 1) = ((i - 1 : Nat) : Int) := by rw [i64_wrap (by omega)]; omega
  simp only [gi_1, gi_z, shI, e, Int.toNat_natCast]
  exact ⟨t1 i h, t1 (i - 1) (by omega)⟩
theorem bT_get {i : Nat} (h : i < (bT a b).length) : (bT a b).getD i 0 ∈ bT a b := by
  rw [List.getD_eq_getElem?_getD, List.getElem?_eq_getElem h]
  exact List.getElem_mem h
include ha hb ha6 in
theorem bet_l2 (i : Nat) (h1 : 1 ≤ i) (h : i < (bT a b).length) (v : Int) (r : List (List Int)) :
    loopOk (drift_Better_l2_step a b [.i v, .i i, .r r]) (drift_Better_l2_init a b [.i v, .i i, .r r]) ∧ gr (drift_Better_l2 a b [.i v, .i i, .r r]).snd 1 = a.filter (cvT ((bT a b).getD (i - 1) 0) ((bT a b).getD i 0)) := by
  obtain ⟨e1, e2⟩ := tR_at ha hb i h1 h v r
  unfold tR at e1 e2
  have b1 := bT_bd ha hb (bT_get h)
  have b2 := bT_bd ha hb (bT_get (a := a) (b := b) (i := i - 1) (by omega))
  have h60 := ha.2
  have key := loop_fold (σ := Unit) (step := drift_Better_l2_step a b [.i v, .i i, .r r]) a.length (fun j _ => [.i j, .r ((a.take j).filter (cvT ((bT a b).getD (i - 1) 0) ((bT a b).getD i 0)))]) (fun _ s => s) (fun _ _ => True) 2 (fun _ => [.i a.length, .r (a.filter (cvT ((bT a b).getD (i - 1) 0) ((bT a b).getD i 0)))])
    (fun _ _ _ _ => trivial)
    (fun j s hj _ => by
      have hm := getD_mem hj
      have e4 : drift_Better_s4 a b [.i j, .r ((a.take j).filter (cvT ((bT a b).getD (i - 1) 0) ((bT a b).getD i 0)))] = a.getD j [] := by
        unfold drift_Better_s4 drift_Better_s3
        simp only [gi_z, Int.toNat_natCast]
        exact el6 (ha6 _ hm)
      obtain ⟨c1, c0⟩ := co_bd ha hm
      unfold drift_Better_l2_step
      rw [e4]
      unfold drift_Better_s2 drift_Better_s1
      rw [e1, e2]
      simp only [gi_z, gr_1, gr_z, dlt hj, guardP_pos (inR_of hj), Int.toNat_natCast, wrap_succ (show j < 4611686018427387904 by omega), wrapD c1 b1 c0 b2]
      have hlen : ((a.take j).filter (cvT ((bT a b).getD (i - 1) 0) ((bT a b).getD i 0))).length ≤ 60 := Nat.le_trans (List.length_filter_le _ _) (by rw [List.length_take]; omega)
      rw [guardP_pos (fits_le (by decide) (by simp only [List.length_cons, List.length_nil]; omega)), take_succ' hj, List.filter_append]
      have ef : [a.getD j []].filter (cvT ((bT a b).getD (i - 1) 0) ((bT a b).getD i 0)) = bif cvT ((bT a b).getD (i - 1) 0) ((bT a b).getD i 0) (a.getD j []) then [a.getD j []] else [] := by
        rw [List.filter_cons]
        cases cvT ((bT a b).getD (i - 1) 0) ((bT a b).getD i 0) (a.getD j []) <;> rfl
      rw [ef]
      unfold cvT
      cases decide (min ((a.getD j []).getD 1 0) ((bT a b).getD i 0) - max ((a.getD j []).getD 0 0) ((bT a b).getD (i - 1) 0) > 0) with
      | true => rfl
      | false => simp only [cond_false, List.append_nil]; rfl)
    (fun s _ => by
      unfold drift_Better_l2_step
      simp only [gi_z, gr_1, gr_z, dnlt, List.take_length]) (s := ()) trivial
  refine ⟨key.1, ?_⟩
  have e : drift_Better_l2 a b [.i v, .i i, .r r] = _ := key.2.1
  rw [e]
  simp only [gr_1, gr_z]
include ha hb ha6 hb6 in
theorem bet_l3 (i : Nat) (h1 : 1 ≤ i) (h : i < (bT a b).length) (v : Int) (r : List (List Int)) :
    loopOk (drift_Better_l3_step a b [.i v, .i i, .r r]) (drift_Better_l3_init a b [.i v, .i i, .r r]) ∧ gr (drift_Better_l3 a b [.i v, .i i, .r r]).snd 1 = a.filter (cvT ((bT a b).getD (i - 1) 0) ((bT a b).getD i 0)) ++ b.filter (cvT ((bT a b).getD (i - 1) 0) ((bT a b).getD i 0)) := by
  obtain ⟨e1, e2⟩ := tR_at ha hb i h1 h v r
  unfold tR at e1 e2
  have b1 := bT_bd ha hb (bT_get h)
  have b2 := bT_bd ha hb (bT_get (a := a) (b := b) (i := i - 1) (by omega))
  have h60 := ha.2
  have hb60 := hb.2
  have e2' := (bet_l2 ha hb ha6 i h1 h v r).2
  generalize hF : a.filter (cvT ((bT a b).getD (i - 1) 0) ((bT a b).getD i 0)) = F at e2'
  have hFl : F.length ≤ 60 := by rw [← hF]; exact Nat.le_trans (List.length_filter_le _ _) h60
  have key := loop_fold (σ := Unit) (step := drift_Better_l3_step a b [.i v, .i i, .r r]) b.length (fun j _ => [.i j, .r (F ++ (b.take j).filter (cvT ((bT a b).getD (i - 1) 0) ((bT a b).getD i 0)))]) (fun _ s => s) (fun _ _ => True) 2 (fun _ => [.i b.length, .r (F ++ b.filter (cvT ((bT a b).getD (i - 1) 0) ((bT a b).getD i 0)))])
    (fun _ _ _ _ => trivial)
    (fun j s hj _ => by
      have hm := getD_mem hj
      have e4 : drift_Better_s8 a b [.i j, .r (F ++ (b.take j).filter (cvT ((bT a b).getD (i - 1) 0) ((bT a b).getD i 0)))] = b.getD j [] := by
        unfold drift_Better_s8 drift_Better_s7
        simp only [gi_z, Int.toNat_natCast]
        exact el6 (hb6 _ hm)
      obtain ⟨c1, c0⟩ := co_bd hb hm
      unfold drift_Better_l3_step
      rw [e4]
      unfold drift_Better_s6 drift_Better_s5
      rw [e1, e2]
      simp only [gi_z, gr_1, gr_z, dlt hj, guardP_pos (inR_of hj), Int.toNat_natCast, wrap_succ (show j < 4611686018427387904 by omega), wrapD c1 b1 c0 b2]
      have hlen : ((b.take j).filter (cvT ((bT a b).getD (i - 1) 0) ((bT a b).getD i 0))).length ≤ 60 := Nat.le_trans (List.length_filter_le _ _) (by rw [List.length_take]; omega)
      rw [guardP_pos (fits_le (by decide) (by simp only [List.length_cons, List.length_nil, List.length_append]; omega)), take_succ' hj, List.filter_append]
      have ef : [b.getD j []].filter (cvT ((bT a b).getD (i - 1) 0) ((bT a b).getD i 0)) = bif cvT ((bT a b).getD (i - 1) 0) ((bT a b).getD i 0) (b.getD j []) then [b.getD j []] else [] := by
        rw [List.filter_cons]
        cases cvT ((bT a b).getD (i - 1) 0) ((bT a b).getD i 0) (b.getD j []) <;> rfl
      rw [ef]
      unfold cvT
      cases decide (min ((b.getD j []).getD 1 0) ((bT a b).getD i 0) - max ((b.getD j []).getD 0 0) ((bT a b).getD (i - 1) 0) > 0) with
      | true => simp only [cond_true, List.append_assoc]; rfl
      | false => simp only [cond_false, List.append_nil]; rfl)
    (fun s _ => by
      unfold drift_Better_l3_step
      simp only [gi_z, gr_1, gr_z, dnlt, List.take_length]) (s := ()) trivial
  have e0 : drift_Better_l3_init a b [.i v, .i i, .r r] = [.i ((0 : Nat) : Int), .r (F ++ (b.take 0).filter (cvT ((bT a b).getD (i - 1) 0) ((bT a b).getD i 0)))] := by
    unfold drift_Better_l3_init
    rw [e2']
    simp
  unfold drift_Better_l3
  rw [e0]
  refine ⟨key.1, ?_⟩
  rw [key.2.1]
  simp only [gr_1, gr_z]
end
theorem filter_at {l : List (List Int)} {f u : Int} : ∀ (e : Int), CL e l → (∀ c ∈ l, cvT f u c = true ↔ c.getD 0 0 ≤ f ∧ f < c.getD 1 0) → l.filter (cvT f u) = (atT l f).toList := by
  induction l with
  | nil => intro e _ _; rfl
  | cons c l ih =>
    intro e hc h
    have hc0 := h c List.mem_cons_self
    have ih := ih (c.getD 1 0) hc.2 fun d hd => h d (List.mem_cons_of_mem _ hd)
    rw [List.filter_cons, atT_cons]
    by_cases hh : c.getD 0 0 ≤ f ∧ f < c.getD 1 0
    · rw [if_pos (hc0.2 hh), if_pos hh, ih, (sum_after (k := 0) _ _ hh.2 hc.2).2.2]
      rfl
    · rw [if_neg (fun k => hh (hc0.1 k)), if_neg hh, ih]
theorem cv_at {a b : List (List Int)} {p : Int × Int} (hp : p ∈ prs (bT a b)) {l : List (List Int)} (hv : VC l) (hl : ∀ c ∈ l, c ∈ a ∨ c ∈ b) : l.filter (cvT p.1 p.2) = (atT l p.1).toList := by
  obtain ⟨_, _, h3, h4⟩ := prs_mem (bT_rise a b) hp
  refine filter_at 0 hv.1 fun c hc => ?_
  have e0 := h4 (c.getD 0 0) (mem_bT.2 ⟨c, hl c hc, .inl rfl⟩)
  have e1 := h4 (c.getD 1 0) (mem_bT.2 ⟨c, hl c hc, .inr rfl⟩)
  have := CL_mem hv.1 c hc
  unfold CO at this
  unfold cvT
  rw [decide_eq_true_eq]
  omega
theorem prs_get : ∀ (l : List Int) (i : Nat), i + 1 < l.length → (prs l)[i]? = some (l.getD i 0, l.getD (i + 1) 0)
  | [], i, h => by simp at h
  | [_], i, h => by simp at h
  | x :: y :: r, 0, h => rfl
  | x :: y :: r, i + 1, h => by
    have := prs_get (y :: r) i (by simpa using h)
    simpa [prs] using this
theorem prs_len : ∀ l : List Int, (prs l).length = l.length - 1
  | [] => rfl
  | [_] => rfl
  | x :: y :: r => by
    have := prs_len (y :: r)
    simp only [prs, List.length_cons] at *
    omega
theorem bAll_append (a b : List (List Int)) : ∀ l l', bAll a b (l ++ l') = bAll a b l ++ bAll a b l'
  | [], l' => rfl
  | p :: l, l' => by
    show (bRow _ _ _ _).toList ++ bAll a b (l ++ l') = _
    rw [bAll_append a b l l', ← List.append_assoc]
    rfl
theorem bAll_len (a b : List (List Int)) : ∀ l, (bAll a b l).length ≤ l.length
  | [] => Nat.le_refl _
  | p :: l => by
    have := bAll_len a b l
    unfold bAll
    cases bRow (atT a p.1) (atT b p.1) p.1 p.2 <;> simp <;> omega
theorem meet_spans {x y : List Int} {e e' : Int} (hx : CO e x) (hy : CO e' y) :
    span_Meet_2 (x.getD 2 0) (x.getD 3 0) (y.getD 2 0) (y.getD 3 0) = (if max (x.getD 2 0) (y.getD 2 0) ≤ min (x.getD 3 0) (y.getD 3 0) then 0 else 4) ∧
    (max (x.getD 2 0) (y.getD 2 0) ≤ min (x.getD 3 0) (y.getD 3 0) → span_Meet_0 (x.getD 2 0) (x.getD 3 0) (y.getD 2 0) (y.getD 3 0) = max (x.getD 2 0) (y.getD 2 0) ∧ span_Meet_1 (x.getD 2 0) (x.getD 3 0) (y.getD 2 0) (y.getD 3 0) = min (x.getD 3 0) (y.getD 3 0)) ∧
    span_Meet_2 (x.getD 4 0) (x.getD 5 0) (y.getD 4 0) (y.getD 5 0) = (if max (x.getD 4 0) (y.getD 4 0) ≤ min (x.getD 5 0) (y.getD 5 0) then 0 else 4) ∧
    (max (x.getD 4 0) (y.getD 4 0) ≤ min (x.getD 5 0) (y.getD 5 0) → span_Meet_0 (x.getD 4 0) (x.getD 5 0) (y.getD 4 0) (y.getD 5 0) = max (x.getD 4 0) (y.getD 4 0) ∧ span_Meet_1 (x.getD 4 0) (x.getD 5 0) (y.getD 4 0) (y.getD 5 0) = min (x.getD 5 0) (y.getD 5 0)) := by
  unfold CO at hx hy
  obtain ⟨a1, a2⟩ := meet_eq (s := x.getD 2 0) (t := x.getD 3 0) (x := y.getD 2 0) (y := y.getD 3 0) (by omega) (by omega)
  obtain ⟨b1, b2⟩ := meet_eq (s := x.getD 4 0) (t := x.getD 5 0) (x := y.getD 4 0) (y := y.getD 5 0) (by omega) (by omega)
  exact ⟨a1, a2, b1, b2⟩
section
variable {a b : List (List Int)} (ha : VC a) (hb : VC b) (ha6 : ∀ c ∈ a, c.length = 6) (hb6 : ∀ c ∈ b, c.length = 6)
include ha hb ha6 hb6 in
theorem bet_l1 : loopOk (drift_Better_l1_step a b) (drift_Better_l1_init a b) ∧
    ((bLie a b ∧ drift_Better_l1 a b = (2, [])) ∨ (¬ bLie a b ∧ ∃ n, drift_Better_l1 a b = (4, [.i 0, .i n, .r (bAll a b (prs (bT a b)))]))) := by
  obtain ⟨t1, t2, t3, t4⟩ := tR_is a b ha.2 hb.2
  have hpl := prs_len (bT a b)
  have key := loop_search (step := drift_Better_l1_step a b) ((bT a b).length - 1) (fun i => !decide (bOk (atT a ((bT a b).getD i 0)) (atT b ((bT a b).getD i 0)))) (fun i => [.i 0, .i ((i + 1 : Nat) : Int), .r (bAll a b ((prs (bT a b)).take i))]) (fun _ => []) 1 3 [.i 0, .i ((((bT a b).length - 1) + 1 : Nat) : Int), .r (bAll a b (prs (bT a b)))]
    (fun i hi => by
      have hlt : i + 1 < (bT a b).length := by omega
      have hp := prs_get (bT a b) i hlt
      have hmem : ((bT a b).getD i 0, (bT a b).getD (i + 1) 0) ∈ prs (bT a b) := List.mem_of_getElem? hp
      have hti : (prs (bT a b)).take (i + 1) = (prs (bT a b)).take i ++ [((bT a b).getD i 0, (bT a b).getD (i + 1) 0)] := by
        have hh : i < (prs (bT a b)).length := by rw [hpl]; omega
        rw [List.take_succ_eq_append_getElem hh]
        rw [List.getElem?_eq_getElem hh] at hp
        rw [Option.some.inj hp]
      generalize hr : bAll a b ((prs (bT a b)).take i) = r
      have hrl : r.length ≤ 240 := by
        rw [← hr]
        refine Nat.le_trans (bAll_len a b _) ?_
        rw [List.length_take, hpl]; omega
      obtain ⟨q1, q2⟩ := bet_l2 ha hb ha6 (i + 1) (by omega) hlt 0 r
      obtain ⟨q3, q4⟩ := bet_l3 ha hb ha6 hb6 (i + 1) (by omega) hlt 0 r
      obtain ⟨w1, w2⟩ := tR_at ha hb (i + 1) (by omega) hlt 0 r
      have fa := cv_at hmem ha (fun c hc => .inl hc)
      have fb := cv_at hmem hb (fun c hc => .inr hc)
      simp only [] at fa fb
      rw [Nat.add_sub_cancel, fa, fb] at q4
      rw [Nat.add_sub_cancel] at w2
      rw [hti, bAll_append, hr]
      have eW : IntKind.i64.wrap (((i + 1 : Nat) : Int) - 1) = (i : Int) := by rw [i64_wrap (by omega)]; omega
      unfold drift_Better_l1_step
      rw [guardP_pos (p := loopOk (drift_Better_l2_step a b _) _) q1, guardP_pos (p := loopOk (drift_Better_l3_step a b _) _) q3, t2]
      have w1' := w1
      have w2' := w2
      unfold tR at w1' w2' t3
      unfold drift_Better_s16 drift_Better_s15
      unfold drift_Better_s9 drift_Better_s10 drift_Better_s11 drift_Better_s12 drift_Better_s13 drift_Better_s14
      rw [w1', w2', q4]
      have hd : decide (gi [.i 0, .i ((i + 1 : Nat) : Int), .r r] 1 < ((((bT a b).length : Int).toNat - loN none : Nat) : Int)) = true := by
        simp only [gi_1, gi_z, loN, Int.toNat_natCast]
        rw [decide_eq_true_eq]; omega
      rw [hd]
      simp only [gi_1, gi_2, gi_z, gr_1, gr_2, gr_z, eW, shI, loN, cond_true]
      rw [guardP_pos ⟨by omega, by omega, by omega⟩, guardP_pos ⟨by omega, by omega⟩, guardP_pos ⟨by omega, by omega, by omega⟩, guardP_pos ⟨by omega, by omega⟩]
      rw [wrap_succ (show i + 1 < 4611686018427387904 by omega)]
      rw [guardP_pos (p := fitsA 48 _) (fits_le (by decide) (by simp only [List.length_cons, List.length_nil]; omega))]
      show _ = bif !decide (bOk (atT a ((bT a b).getD i 0)) (atT b ((bT a b).getD i 0))) then some (1 + 1, ([] : List U)) else some (0, [.i 0, .i ((i + 1 + 1 : Nat) : Int), .r (r ++ ((bRow (atT a ((bT a b).getD i 0)) (atT b ((bT a b).getD i 0)) ((bT a b).getD i 0) ((bT a b).getD (i + 1) 0)).toList ++ []))])
      rw [List.append_nil]
      have ca := fun x h => atT_co ha (t := (bT a b).getD i 0) x h
      have cb := fun x h => atT_co hb (t := (bT a b).getD i 0) x h
      cases hA : atT a ((bT a b).getD i 0) with
      | none =>
        cases hB : atT b ((bT a b).getD i 0) with
        | none =>
          rw [decide_eq_true (show bOk none none from trivial)]
          simp only [Option.toList, List.append_nil, bRow]
          rfl
        | some d =>
          obtain ⟨e, hd⟩ := cb d hB
          obtain ⟨m1, m2, m3, m4⟩ := meet_spans hd hd
          have hd' := hd
          unfold CO at hd'
          have k1 : max (d.getD 2 0) (d.getD 2 0) ≤ min (d.getD 3 0) (d.getD 3 0) := by omega
          have k2 : max (d.getD 4 0) (d.getD 4 0) ≤ min (d.getD 5 0) (d.getD 5 0) := by omega
          rw [if_pos k1] at m1
          rw [if_pos k2] at m3
          obtain ⟨m5, m6⟩ := m2 k1
          obtain ⟨m7, m8⟩ := m4 k2
          rw [decide_eq_true (show bOk none (some d) from trivial)]
          have ew : IntKind.i64.wrap (((1 : Nat) : Int) - 1) = 0 := by rw [i64_wrap (by omega)]; rfl
          simp only [Option.toList, List.nil_append, bRow, List.length_cons, List.length_nil, Nat.zero_add, ew, Int.toNat_zero, List.getD_cons_zero, m1, m3, m5, m6, m7, m8]
          rw [guardP_pos ⟨by omega, by simp⟩, guardP_pos ⟨by omega, by simp⟩, guardP_pos ⟨by omega, by simp⟩, guardP_pos ⟨by omega, by simp⟩, guardP_pos ⟨by omega, by simp⟩, guardP_pos ⟨by omega, by simp⟩, guardP_pos ⟨by omega, by simp⟩, guardP_pos ⟨by omega, by simp⟩]
          simp only [Int.max_self, Int.min_self]
          rfl
      | some c =>
        obtain ⟨e, hc⟩ := ca c hA
        cases hB : atT b ((bT a b).getD i 0) with
        | none =>
          obtain ⟨m1, m2, m3, m4⟩ := meet_spans hc hc
          have hd' := hc
          unfold CO at hd'
          have k1 : max (c.getD 2 0) (c.getD 2 0) ≤ min (c.getD 3 0) (c.getD 3 0) := by omega
          have k2 : max (c.getD 4 0) (c.getD 4 0) ≤ min (c.getD 5 0) (c.getD 5 0) := by omega
          rw [if_pos k1] at m1
          rw [if_pos k2] at m3
          obtain ⟨m5, m6⟩ := m2 k1
          obtain ⟨m7, m8⟩ := m4 k2
          rw [decide_eq_true (show bOk (some c) none from trivial)]
          have ew : IntKind.i64.wrap (((1 : Nat) : Int) - 1) = 0 := by rw [i64_wrap (by omega)]; rfl
          simp only [Option.toList, List.append_nil, bRow, List.length_cons, List.length_nil, Nat.zero_add, ew, Int.toNat_zero, List.getD_cons_zero, m1, m3, m5, m6, m7, m8]
          rw [guardP_pos ⟨by omega, by simp⟩, guardP_pos ⟨by omega, by simp⟩, guardP_pos ⟨by omega, by simp⟩, guardP_pos ⟨by omega, by simp⟩, guardP_pos ⟨by omega, by simp⟩, guardP_pos ⟨by omega, by simp⟩, guardP_pos ⟨by omega, by simp⟩, guardP_pos ⟨by omega, by simp⟩]
          simp only [Int.max_self, Int.min_self]
          rfl
        | some d =>
          obtain ⟨e', hd⟩ := cb d hB
          obtain ⟨m1, m2, m3, m4⟩ := meet_spans hc hd
          have ew : IntKind.i64.wrap (((1 + 1 : Nat) : Int) - 1) = 1 := by rw [i64_wrap (by omega)]; rfl
          simp only [Option.toList, List.cons_append, List.nil_append, bRow, List.length_cons, List.length_nil, Nat.zero_add, ew, Int.toNat_zero, Int.toNat_one, List.getD_cons_zero, List.getD_cons_succ, m1, m3]
          rw [guardP_pos ⟨by omega, by simp⟩, guardP_pos ⟨by omega, by simp⟩, guardP_pos ⟨by omega, by simp⟩, guardP_pos ⟨by omega, by simp⟩, guardP_pos ⟨by omega, by simp⟩, guardP_pos ⟨by omega, by simp⟩, guardP_pos ⟨by omega, by simp⟩, guardP_pos ⟨by omega, by simp⟩]
          by_cases k1 : max (c.getD 2 0) (d.getD 2 0) ≤ min (c.getD 3 0) (d.getD 3 0)
          · by_cases k2 : max (c.getD 4 0) (d.getD 4 0) ≤ min (c.getD 5 0) (d.getD 5 0)
            · obtain ⟨m5, m6⟩ := m2 k1
              obtain ⟨m7, m8⟩ := m4 k2
              rw [decide_eq_true (show bOk (some c) (some d) from ⟨k1, k2⟩), if_pos k1, if_pos k2, m5, m6, m7, m8]
              rfl
            · rw [decide_eq_false (show ¬ bOk (some c) (some d) from fun h => k2 h.2), if_pos k1, if_neg k2]
              rfl
          · rw [decide_eq_false (show ¬ bOk (some c) (some d) from fun h => k1 h.1), if_neg k1]
            by_cases k2 : max (c.getD 4 0) (d.getD 4 0) ≤ min (c.getD 5 0) (d.getD 5 0)
            · rw [if_pos k2]; rfl
            · rw [if_neg k2]; rfl)
    (by
      have hd : decide (gi [.i 0, .i ((((bT a b).length - 1) + 1 : Nat) : Int), .r (bAll a b ((prs (bT a b)).take ((bT a b).length - 1)))] 1 < (((compLen (sortNums (gr (drift_Better_l0 a b).snd 1))).toNat - loN none : Nat) : Int)) = false := by
        rw [t2]
        simp only [gi_1, gi_z, loN, Int.toNat_natCast]
        rw [decide_eq_false_iff_not]; omega
      unfold drift_Better_l1_step
      rw [hd]
      simp only [cond_false, gi_1, gi_z, gr_1, gr_2, gr_z]
      rw [← hpl, List.take_length])
  have e0 : drift_Better_l1_init a b = [.i 0, .i ((0 + 1 : Nat) : Int), .r (bAll a b ((prs (bT a b)).take 0))] := rfl
  unfold drift_Better_l1
  rw [e0]
  refine ⟨key.1, ?_⟩
  rcases key.2 with ⟨i, g1, g2, g3, g4⟩ | ⟨g3, g4⟩
  · refine .inl ⟨⟨_, List.mem_of_getElem? (prs_get (bT a b) i (by omega)), by simpa using g2⟩, g4⟩
  · refine .inr ⟨?_, _, g4⟩
    rintro ⟨p, hp, hn⟩
    obtain ⟨i, hi, rfl⟩ := List.getElem_of_mem hp
    have := prs_get (bT a b) i (by rw [hpl] at hi; omega)
    rw [List.getElem?_eq_getElem hi] at this
    have g := g3 i (by rw [hpl] at hi; exact hi)
    rw [Option.some.inj this] at hn
    simp only [] at hn
    rw [decide_eq_false hn] at g
    cases g
end
theorem better_is (a b : List (List Int)) (hla : a.length ≤ 9223372036854775807) (hlb : b.length ≤ 9223372036854775807) (ha6 : ∀ c ∈ a, c.length = 6) (hb6 : ∀ c ∈ b, c.length = 6) :
    drift_Better_pre a b ∧ drift_Better_1 a b = betE a b ∧ drift_Better_0 a b = betL a b := by
  have va := currents_is a hla
  have vb := currents_is b hlb
  unfold drift_Better_pre drift_Better_1 drift_Better_0 betL betE
  rw [va.2, vb.2]
  by_cases ha : VC a
  · by_cases hb : VC b
    · rw [decide_eq_true ha, decide_eq_true hb]
      have hn : ¬ (¬ VC a ∨ ¬ VC b) := fun h => h.elim (fun k => k ha) (fun k => k hb)
      rw [if_neg hn]
      obtain ⟨k1, k2⟩ := bet_l1 ha hb ha6 hb6
      obtain ⟨k3, k4⟩ := bet_l0 a b ha.2 hb.2
      have h60 := ha.2
      have g60 := hb.2
      refine ⟨⟨va.1, fun _ => vb.1, fun _ => ⟨⟨?_, ?_, ⟨?_, ?_, ?_⟩, ?_, ?_⟩, k3, ?_, k1⟩⟩, ?_⟩
      · rw [i64_wrap (by omega)]; rw [decide_eq_false_iff_not]; omega
      · rw [i64_wrap (x := 0 + (a.length : Int)) (by omega), i64_wrap (by omega)]; rw [decide_eq_false_iff_not]; omega
      · rw [i64_wrap (x := 0 + (a.length : Int)) (by omega), i64_wrap (by omega)]; omega
      · rw [i64_wrap (x := 0 + (a.length : Int)) (by omega), i64_wrap (by omega)]; omega
      · rw [i64_wrap (x := 0 + (a.length : Int)) (by omega), i64_wrap (by omega)]; omega
      · exact fits_le (by decide) (by omega)
      · exact fits_le (by decide) (by simp only [List.length_append, List.length_nil]; omega)
      · rw [k4, endsR_len, List.length_append]; omega
      · unfold drift_Better_s17 drift_Better_s18
        rcases k2 with ⟨g1, g2⟩ | ⟨g1, n, g2⟩
        · rw [g2, if_pos g1]
          exact ⟨rfl, rfl⟩
        · rw [g2, if_neg g1]
          simp only [gr_1, gr_2, gr_z]
          by_cases g3 : (bAll a b (prs (bT a b))).length > 60
          · rw [if_pos g3, decide_eq_true (by omega)]
            exact ⟨rfl, rfl⟩
          · rw [if_neg g3, decide_eq_false (by omega)]
            exact ⟨rfl, rfl⟩
    · rw [decide_eq_true ha, decide_eq_false hb, if_pos (show ¬ VC a ∨ ¬ VC b from .inr hb)]
      exact ⟨⟨va.1, fun _ => vb.1, fun h => by cases h⟩, rfl, rfl⟩
  · rw [decide_eq_false ha, if_pos (show ¬ VC a ∨ ¬ VC b from .inl ha)]
    exact ⟨⟨va.1, (fun h => by cases h), fun h => by cases h⟩, rfl, rfl⟩
end Go.Proofs.YtnijhjpaplihbaaGreat
