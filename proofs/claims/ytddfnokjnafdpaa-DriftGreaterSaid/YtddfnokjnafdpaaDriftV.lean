/-
  What two forecasts say together.
-/
import Derived.Test.YtddfnokjnafdpaaDriftN
import Derived.Test.YtddfnokjnafdpaaSySo
set_option linter.unusedVariables false
set_option maxRecDepth 100000
namespace Go.Proofs.Ytddfnokjnafdpaa
open Go Go.Sy

/-- The current that has a minute. -/
def atT (l : List (List Int)) (t : Int) : Option (List Int) := l.find? fun c => decide (c.getD 0 0 ≤ t) && decide (t < c.getD 1 0)
theorem atT_cons (c : List Int) (l : List (List Int)) (t : Int) : atT (c :: l) t = if c.getD 0 0 ≤ t ∧ t < c.getD 1 0 then some c else atT l t := by
  unfold atT
  rw [List.find?_cons]
  by_cases h : c.getD 0 0 ≤ t ∧ t < c.getD 1 0
  · rw [if_pos h, decide_eq_true h.1, decide_eq_true h.2]; rfl
  · rw [if_neg h]
    have : (decide (c.getD 0 0 ≤ t) && decide (t < c.getD 1 0)) = false := by
      simp only [Bool.and_eq_false_iff, decide_eq_false_iff_not]
      omega
    rw [this]
theorem atT_some {l : List (List Int)} {t : Int} {c : List Int} (h : atT l t = some c) : c ∈ l ∧ c.getD 0 0 ≤ t ∧ t < c.getD 1 0 := by
  unfold atT at h
  have := List.find?_some h
  simp only [Bool.and_eq_true, decide_eq_true_eq] at this
  exact ⟨List.mem_of_find?_eq_some h, this⟩
theorem atT_none {l : List (List Int)} {t : Int} : atT l t = none ↔ ∀ c ∈ l, ¬ (c.getD 0 0 ≤ t ∧ t < c.getD 1 0) := by
  unfold atT
  rw [List.find?_eq_none]
  simp only [Bool.and_eq_true, decide_eq_true_eq]
theorem mins_1 {t : Int} {c : List Int} : mins t (t + 1) c = if c.getD 0 0 ≤ t ∧ t < c.getD 1 0 then 1 else 0 := by
  unfold mins; split <;> omega
theorem sum_cons (f u : Int) (k : Nat) (c : List Int) (l : List (List Int)) : sumL f u k (c :: l) = mins f u c * c.getD k 0 + sumL f u k l := by simp [sumL]
theorem cov_cons (f u : Int) (c : List Int) (l : List (List Int)) : covL f u (c :: l) = mins f u c + covL f u l := by simp [covL]
theorem sum_after {t : Int} {k : Nat} : ∀ (e : Int) (l : List (List Int)), t < e → CL e l → sumL t (t + 1) k l = 0 ∧ covL t (t + 1) l = 0 ∧ atT l t = none
  | e, [], _, _ => ⟨rfl, rfl, rfl⟩
  | e, c :: l, h, hc => by
    have hco := hc.1
    unfold CO at hco
    obtain ⟨h1, h2, h3⟩ := sum_after (t := t) (k := k) (c.getD 1 0) l (by omega) hc.2
    have hn : ¬ (c.getD 0 0 ≤ t ∧ t < c.getD 1 0) := by omega
    rw [sum_cons, cov_cons, atT_cons, mins_1, if_neg hn, if_neg hn, h1, h2, h3]
    exact ⟨by omega, by omega, rfl⟩
/-- What a current says. -/
def vlA (k : Nat) : Option (List Int) → Int
  | some c => c.getD k 0
  | none => 0
theorem sum_at {t : Int} {k : Nat} : ∀ (e : Int) (l : List (List Int)), CL e l → sumL t (t + 1) k l = vlA k (atT l t) ∧ covL t (t + 1) l = if (atT l t).isSome then 1 else 0
  | e, [], _ => ⟨rfl, rfl⟩
  | e, c :: l, hc => by
    rw [sum_cons, cov_cons, atT_cons, mins_1]
    by_cases hn : c.getD 0 0 ≤ t ∧ t < c.getD 1 0
    · obtain ⟨h1, h2, h3⟩ := sum_after (t := t) (k := k) (c.getD 1 0) l hn.2 hc.2
      rw [if_pos hn, if_pos hn, h1, h2]
      exact ⟨by simp [vlA], rfl⟩
    · obtain ⟨h1, h2⟩ := sum_at (t := t) (k := k) (c.getD 1 0) l hc.2
      rw [if_neg hn, if_neg hn, h1, h2]
      exact ⟨by omega, by omega⟩
theorem sumL_minutes {l l' : List (List Int)} (hv : VC l) (hv' : VC l') (k : Nat) : ∀ (n : Nat) (f : Int), (∀ t, f ≤ t → t < f + n → vlA k (atT l t) ≤ vlA k (atT l' t)) → sumL f (f + n) k l ≤ sumL f (f + n) k l'
  | 0, f, _ => by
    rw [show f + ((0 : Nat) : Int) = f by omega, sumL_none, sumL_none]; exact Int.le_refl _
  | n + 1, f, h => by
    have ih := sumL_minutes hv hv' k n f fun t h1 h2 => h t h1 (by omega)
    have e : f + ((n + 1 : Nat) : Int) = (f + n) + 1 := by omega
    rw [e, sumL_add hv (show f ≤ f + n by omega) (show f + (n : Int) ≤ f + n + 1 by omega), sumL_add hv' (show f ≤ f + n by omega) (show f + (n : Int) ≤ f + n + 1 by omega), (sum_at 0 l hv.1).1, (sum_at 0 l' hv'.1).1]
    have := h (f + n) (by omega) (by omega)
    omega
theorem covL_all {l : List (List Int)} (hv : VC l) : ∀ (n : Nat) (f : Int), (∀ t, f ≤ t → t < f + n → (atT l t).isSome = true) → covL f (f + n) l = n
  | 0, f, _ => by rw [show f + ((0 : Nat) : Int) = f by omega, covL_none]; rfl
  | n + 1, f, h => by
    have ih := covL_all hv n f fun t h1 h2 => h t h1 (by omega)
    have e : f + ((n + 1 : Nat) : Int) = (f + n) + 1 := by omega
    rw [e, covL_add hv (show f ≤ f + n by omega) (show f + (n : Int) ≤ f + n + 1 by omega), (sum_at (k := 0) 0 l hv.1).2, ih, if_pos (h (f + n) (by omega) (by omega))]
    omega
theorem covL_full {l : List (List Int)} (hv : VC l) {f u : Int} (ht : VT f u) : covL f u l = u - f ↔ ∀ t, f ≤ t → t < u → (atT l t).isSome = true := by
  have e : f + ((u - f).toNat : Int) = u := by unfold VT at ht; omega
  constructor
  · intro h t h1 h2
    unfold VT at ht
    have a := covL_add hv (show f ≤ t by omega) (show t ≤ u by omega)
    have b := covL_add hv (show t ≤ t + 1 by omega) (show t + 1 ≤ u by omega)
    have c := covL_le hv (show VT f t by unfold VT; omega)
    have d := covL_le hv (show VT (t + 1) u by unfold VT; omega)
    have g := (sum_at (t := t) (k := 0) 0 l hv.1).2
    cases hs : (atT l t).isSome with
    | true => rfl
    | false =>
      rw [hs] at g
      simp only [Bool.false_eq_true, if_false] at g
      omega
  · intro h
    have := covL_all hv (u - f).toNat f (fun t h1 h2 => h t h1 (by omega))
    rw [e] at this
    rw [this]
    unfold VT at ht
    omega

/-! ### rising times -/
theorem dd_after : ∀ (l : List Int) (p : Int), l.Pairwise (fun a b => a ≤ b) → (∀ x ∈ l, p ≤ x) → (dd (some p) l).Pairwise (fun a b => a < b) ∧ ∀ x, x ∈ dd (some p) l ↔ x ∈ l ∧ p < x
  | [], p, _, _ => by simp [dd]
  | y :: l, p, hs, hp => by
    have hy := hp y List.mem_cons_self
    rw [List.pairwise_cons] at hs
    unfold dd
    by_cases h : p = y
    · subst h
      rw [if_pos rfl]
      obtain ⟨h1, h2⟩ := dd_after l p hs.2 (fun x hx => hp x (List.mem_cons_of_mem _ hx))
      refine ⟨h1, fun x => ?_⟩
      rw [h2, List.mem_cons]
      constructor
      · rintro ⟨h3, h4⟩; exact ⟨.inr h3, h4⟩
      · rintro ⟨rfl | h3, h4⟩
        · omega
        · exact ⟨h3, h4⟩
    · rw [if_neg (by simpa using h)]
      obtain ⟨h1, h2⟩ := dd_after l y hs.2 hs.1
      refine ⟨List.pairwise_cons.2 ⟨fun x hx => ((h2 x).1 hx).2, h1⟩, fun x => ?_⟩
      rw [List.mem_cons, List.mem_cons, h2]
      constructor
      · rintro (rfl | ⟨h3, h4⟩)
        · exact ⟨.inl rfl, by omega⟩
        · exact ⟨.inr h3, by omega⟩
      · rintro ⟨rfl | h3, h4⟩
        · exact .inl rfl
        · have := hs.1 x h3
          by_cases e : x = y
          · exact .inl e
          · exact .inr ⟨h3, by omega⟩
theorem dd_all {l : List Int} (hs : l.Pairwise fun a b => a ≤ b) : (dd none l).Pairwise (fun a b => a < b) ∧ ∀ x, x ∈ dd none l ↔ x ∈ l := by
  cases l with
  | nil => simp [dd]
  | cons y l =>
    rw [List.pairwise_cons] at hs
    have e : dd none (y :: l) = y :: dd (some y) l := by
      rw [show dd none (y :: l) = if (none : Option Int) = some y then dd (some y) l else y :: dd (some y) l from rfl, if_neg (by simp)]
    rw [e]
    obtain ⟨h1, h2⟩ := dd_after l y hs.2 hs.1
    refine ⟨List.pairwise_cons.2 ⟨fun x hx => ((h2 x).1 hx).2, h1⟩, fun x => ?_⟩
    rw [List.mem_cons, List.mem_cons, h2]
    constructor
    · rintro (rfl | ⟨h3, _⟩)
      · exact .inl rfl
      · exact .inr h3
    · rintro (rfl | h3)
      · exact .inl rfl
      · have := hs.1 x h3
        by_cases e : x = y
        · exact .inl e
        · exact .inr ⟨h3, by omega⟩
/-- The ends of currents. -/
def endsL (l : List (List Int)) : List Int := l.flatMap fun c => [c.getD 0 0, c.getD 1 0]
/-- The times at which something begins or ends. -/
def bT (a b : List (List Int)) : List Int := dd none (isort leI (endsL (a ++ b)))
theorem isortI_sorted (l : List Int) : (isort leI l).Pairwise fun a b => a ≤ b := by
  have := isort_sorted leI_total leI_trans l
  exact this.imp fun h => by simpa [leI] using h
theorem bT_rise (a b : List (List Int)) : (bT a b).Pairwise fun x y => x < y := (dd_all (isortI_sorted _)).1
theorem mem_bT {a b : List (List Int)} {x : Int} : x ∈ bT a b ↔ ∃ c, (c ∈ a ∨ c ∈ b) ∧ (x = c.getD 0 0 ∨ x = c.getD 1 0) := by
  unfold bT
  rw [(dd_all (isortI_sorted _)).2, isort_mem, endsL, List.mem_flatMap]
  constructor
  · rintro ⟨c, hc, h⟩
    exact ⟨c, List.mem_append.1 hc, by simpa using h⟩
  · rintro ⟨c, hc, h⟩
    exact ⟨c, List.mem_append.2 hc, by simpa using h⟩
theorem rise_unique : ∀ {l l' : List Int}, l.Pairwise (fun x y => x < y) → l'.Pairwise (fun x y => x < y) → (∀ x, x ∈ l ↔ x ∈ l') → l = l'
  | [], [], _, _, _ => rfl
  | [], y :: l', _, _, h => by have := (h y).2 List.mem_cons_self; cases this
  | x :: l, [], _, _, h => by have := (h x).1 List.mem_cons_self; cases this
  | x :: l, y :: l', h1, h2, h => by
    rw [List.pairwise_cons] at h1 h2
    have hxy : x = y := by
      have a := (h x).1 List.mem_cons_self
      have b := (h y).2 List.mem_cons_self
      rcases List.mem_cons.1 a with e | a
      · exact e
      · rcases List.mem_cons.1 b with e | b
        · exact e.symm
        · have := h1.1 y b
          have := h2.1 x a
          omega
    subst hxy
    congr 1
    refine rise_unique h1.2 h2.2 fun z => ?_
    constructor
    · intro hz
      have := (h z).1 (List.mem_cons_of_mem _ hz)
      rcases List.mem_cons.1 this with e | k
      · have := h1.1 z hz; omega
      · exact k
    · intro hz
      have := (h z).2 (List.mem_cons_of_mem _ hz)
      rcases List.mem_cons.1 this with e | k
      · have := h2.1 z hz; omega
      · exact k
theorem bT_symm (a b : List (List Int)) : bT a b = bT b a := rise_unique (bT_rise a b) (bT_rise b a) fun x => by
  rw [mem_bT, mem_bT]
  constructor <;> rintro ⟨c, h, k⟩ <;> exact ⟨c, h.symm, k⟩
/-- Neighbouring times. -/
def prs : List Int → List (Int × Int)
  | [] => []
  | [_] => []
  | x :: y :: r => (x, y) :: prs (y :: r)
theorem prs_mem : ∀ {l : List Int}, l.Pairwise (fun x y => x < y) → ∀ {p : Int × Int}, p ∈ prs l → p.1 ∈ l ∧ p.2 ∈ l ∧ p.1 < p.2 ∧ ∀ x ∈ l, x ≤ p.1 ∨ p.2 ≤ x
  | [], _, p, h => by cases h
  | [_], _, p, h => by cases h
  | x :: y :: r, hr, p, h => by
    have hr2 := List.pairwise_cons.1 hr
    have hr3 := List.pairwise_cons.1 hr2.2
    unfold prs at h
    rcases List.mem_cons.1 h with rfl | h
    · refine ⟨List.mem_cons_self, List.mem_cons_of_mem _ List.mem_cons_self, hr2.1 y List.mem_cons_self, fun z hz => ?_⟩
      rcases List.mem_cons.1 hz with rfl | hz
      · exact .inl (Int.le_refl _)
      · rcases List.mem_cons.1 hz with rfl | hz
        · exact .inr (Int.le_refl _)
        · exact .inr (Int.le_of_lt (hr3.1 z hz))
    · obtain ⟨h1, h2, h3, h4⟩ := prs_mem hr2.2 h
      refine ⟨List.mem_cons_of_mem _ h1, List.mem_cons_of_mem _ h2, h3, fun z hz => ?_⟩
      rcases List.mem_cons.1 hz with rfl | hz
      · exact .inl (Int.le_of_lt (hr2.1 _ h1))
      · exact h4 z hz
/-- A time between the first and the last one is in a part. -/
theorem prs_find : ∀ {l : List Int}, l.Pairwise (fun x y => x < y) → ∀ {t x y : Int}, x ∈ l → y ∈ l → x ≤ t → t < y → ∃ p ∈ prs l, p.1 ≤ t ∧ t < p.2
  | [], _, t, x, y, h, _, _, _ => by cases h
  | [z], _, t, x, y, h, k, h1, h2 => by
    have a := List.mem_singleton.1 h
    have b := List.mem_singleton.1 k
    omega
  | z :: z' :: r, hr, t, x, y, h, k, h1, h2 => by
    have hr2 := List.pairwise_cons.1 hr
    unfold prs
    by_cases ht : t < z'
    · refine ⟨(z, z'), List.mem_cons_self, ?_, ht⟩
      rcases List.mem_cons.1 h with rfl | h
      · exact h1
      · rcases List.mem_cons.1 h with rfl | h
        · simp only []; omega
        · have := (List.pairwise_cons.1 hr2.2).1 x h
          simp only []; omega
    · have hy : y ∈ z' :: r := by
        rcases List.mem_cons.1 k with rfl | k
        · have := hr2.1 z' List.mem_cons_self
          omega
        · exact k
      obtain ⟨p, hp, h3⟩ := prs_find hr2.2 (t := t) (x := z') List.mem_cons_self hy (by omega) h2
      exact ⟨p, List.mem_cons_of_mem _ hp, h3⟩
end Go.Proofs.Ytddfnokjnafdpaa
