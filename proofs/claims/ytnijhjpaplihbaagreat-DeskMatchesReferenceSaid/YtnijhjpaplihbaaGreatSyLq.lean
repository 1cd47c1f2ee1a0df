/- Several texts in one (wip/xiS.py): XSyLp XSyLq. -/
import Derived.Test.YtnijhjpaplihbaaGreatSyX
namespace Go.Sy
theorem xxl {step : List U → Option (Nat × List U)} : ∀ {n m : Nat} {xs : List U} {r r' : Nat × List U}, xkg step n xs = some r → xkg step m xs = some r' → r = r'
 | 0, _, _, _, _, h, _ => by cases h
 | _ + 1, 0, _, _, _, _, h => by cases h
 | n + 1, m + 1, xs, r, r', h, h' => by
  unfold xkg at h h'
  cases hs : step xs with
  | none => rw [hs] at h; cases h
  | some y =>
   obtain ⟨k, ys⟩ := y
   rw [hs] at h h'
   cases k with
   | zero => exact xxl h h'
   | succ k => cases h; cases h'; rfl
theorem xvS {step : List U → Option (Nat × List U)} {n : Nat} {xs : List U} {r : Nat × List U} (h : xkg step n xs = some r) : xay step xs ∧ xaC step xs = r := by
 have hok : xay step xs := ⟨n, r, h⟩
 obtain ⟨m, hm⟩ := xmX hok
 exact ⟨hok, xxl hm h⟩
theorem xpA {step : List U → Option (Nat × List U)} {n : Nat} {xs ys : List U} {r : Nat × List U} (hs : step xs = some (0, ys)) (h : xkg step n ys = some r) : xkg step (n + 1) xs = some r := by
 unfold xkg; rw [hs]; exact h
theorem xv4 {step : List U → Option (Nat × List U)} {xs ys : List U} {m : Nat} (hs : step xs = some (m + 1, ys)) : xkg step 1 xs = some (m + 1, ys) := by
 unfold xkg; rw [hs]
end Go.Sy
namespace Go.Sy
theorem xav {x : Int} (h : -9223372036854775808 ≤ x ∧ x ≤ 9223372036854775807) : IntKind.i64.wrap x = x := IntWalk.i64_in x h
theorem xaA {i : Nat} (h : i < 4611686018427387904) : IntKind.i64.wrap ((i : Int) + 1) = ((i + 1 : Nat) : Int) := by
 rw [xav (by omega)]; rfl
theorem xa1 {i : Nat} {l : List (List Int)} (h : i < l.length) : inR (i : Int) l := by unfold inR; omega
theorem dlt {α : Type} {i n : Nat} (h : i < n) {inst : Decidable ((i : Int) < (n : Int))} (x y : α) : (bif @decide ((i : Int) < (n : Int)) inst then x else y) = x := by rw [decide_eq_true (by omega)]; rfl
theorem dnlt {α : Type} (n : Nat) {inst : Decidable ((n : Int) < (n : Int))} (x y : α) : (bif @decide ((n : Int) < (n : Int)) inst then x else y) = y := by rw [decide_eq_false (by omega)]; rfl
theorem gi_z (n : Int) (r : List U) : gi (.i n :: r) 0 = n := by cases r <;> rfl
theorem gi_1 (a : U) (r : List U) : gi (a :: r) 1 = gi r 0 := by cases r <;> rfl
theorem gi_2 (a b : U) (r : List U) : gi (a :: b :: r) 2 = gi r 0 := by cases r <;> rfl
theorem gi_3 (a b c : U) (r : List U) : gi (a :: b :: c :: r) 3 = gi r 0 := by cases r <;> rfl
theorem gi_4 (a b c d : U) (r : List U) : gi (a :: b :: c :: d :: r) 4 = gi r 0 := by cases r <;> rfl
theorem gb_z (n : Bool) (r : List U) : gb (.b n :: r) 0 = n := by cases r <;> rfl
theorem gb_1 (a : U) (r : List U) : gb (a :: r) 1 = gb r 0 := by cases r <;> rfl
theorem gb_2 (a b : U) (r : List U) : gb (a :: b :: r) 2 = gb r 0 := by cases r <;> rfl
theorem gb_3 (a b c : U) (r : List U) : gb (a :: b :: c :: r) 3 = gb r 0 := by cases r <;> rfl
theorem gr_z (n : List (List Int)) (r : List U) : gr (.r n :: r) 0 = n := by cases r <;> rfl
theorem gr_1 (a : U) (r : List U) : gr (a :: r) 1 = gr r 0 := by cases r <;> rfl
theorem gr_2 (a b : U) (r : List U) : gr (a :: b :: r) 2 = gr r 0 := by cases r <;> rfl
theorem gr_3 (a b c : U) (r : List U) : gr (a :: b :: c :: r) 3 = gr r 0 := by cases r <;> rfl
theorem xa6 {step : List U → Option (Nat × List U)} (n : Nat) (p : Nat → Bool) (mk out : Nat → List U) (m m' : Nat) (fin : List U)
  (hs : ∀ i, i < n → step (mk i) = bif p i then some (m + 1, out i) else some (0, mk (i + 1))) (he : step (mk n) = some (m' + 1, fin)) :
  xay step (mk 0) ∧ ((∃ i, i < n ∧ p i = true ∧ (∀ j, j < i → p j = false) ∧ xaC step (mk 0) = (m + 1, out i)) ∨ ((∀ j, j < n → p j = false) ∧ xaC step (mk 0) = (m' + 1, fin))) := by
 have key : ∀ k i, k + i = n → (∃ i', i ≤ i' ∧ i' < n ∧ p i' = true ∧ (∀ j, i ≤ j → j < i' → p j = false) ∧ xkg step (k + 1) (mk i) = some (m + 1, out i')) ∨ ((∀ j, i ≤ j → j < n → p j = false) ∧ xkg step (k + 1) (mk i) = some (m' + 1, fin)) := by
  intro k
  induction k with
  | zero =>
   intro i hi
   obtain rfl : i = n := by omega
   exact Or.inr ⟨fun j _ _ => by omega, xv4 he⟩
  | succ k ih =>
   intro i hi
   have h := hs i (by omega)
   cases hp : p i with
   | true =>
    rw [hp] at h
    refine Or.inl ⟨i, Nat.le_refl _, by omega, hp, fun j _ _ => by omega, ?_⟩
    unfold xkg; rw [h]; rfl
   | false =>
    rw [hp] at h
    rcases ih (i + 1) (by omega) with ⟨i', h1, h2, h3, h4, h5⟩ | ⟨h4, h5⟩
    ·refine Or.inl ⟨i', by omega, h2, h3, fun j hj hj' => ?_, xpA h h5⟩
     by_cases e : j = i
     ·rw [e]; exact hp
     ·exact h4 j (by omega) hj'
    ·refine Or.inr ⟨fun j hj hj' => ?_, xpA h h5⟩
     by_cases e : j = i
     ·rw [e]; exact hp
     ·exact h4 j (by omega) hj'
 rcases key n 0 rfl with ⟨i, _, h2, h3, h4, h5⟩ | ⟨h4, h5⟩
 ·obtain ⟨h6, h7⟩ := xvS h5
  exact ⟨h6, Or.inl ⟨i, h2, h3, fun j hj => h4 j (Nat.zero_le _) hj, h7⟩⟩
 ·obtain ⟨h6, h7⟩ := xvS h5
  exact ⟨h6, Or.inr ⟨fun j hj => h4 j (Nat.zero_le _) hj, h7⟩⟩
def upto {σ : Type} (f : Nat → σ → σ) : Nat → σ → σ
 | 0, s => s
 | n + 1, s => f n (upto f n s)
theorem xgN {σ : Type} {step : List U → Option (Nat × List U)} (n : Nat) (mk : Nat → σ → List U) (f : Nat → σ → σ) (I : Nat → σ → Prop) (m : Nat) (fin : σ → List U)
  (hI : ∀ i s, i < n → I i s → I (i + 1) (f i s)) (hs : ∀ i s, i < n → I i s → step (mk i s) = some (0, mk (i + 1) (f i s))) (he : ∀ s, I n s → step (mk n s) = some (m + 1, fin s)) {s : σ} (h0 : I 0 s) :
  xay step (mk 0 s) ∧ xaC step (mk 0 s) = (m + 1, fin (upto f n s)) ∧ I n (upto f n s) := by
 have hIn : ∀ i, i ≤ n → I i (upto f i s) := by
  intro i
  induction i with
  | zero => intro _; exact h0
  | succ i ih => intro h; exact hI i _ (by omega) (ih (by omega))
 have key : ∀ k i, k + i = n → xkg step (k + 1) (mk i (upto f i s)) = some (m + 1, fin (upto f n s)) := by
  intro k
  induction k with
  | zero =>
   intro i hi
   obtain rfl : i = n := by omega
   exact xv4 (he _ (hIn _ (Nat.le_refl _)))
  | succ k ih =>
   intro i hi
   exact xpA (hs i _ (by omega) (hIn i (by omega))) (ih (i + 1) (by omega))
 obtain ⟨h6, h7⟩ := xvS (key n 0 rfl)
 exact ⟨h6, h7, hIn n (Nat.le_refl _)⟩
theorem xdL {step : List U → Option (Nat × List U)} (n : Nat) (Inv : Nat → List U → Prop) (Post : Nat × List U → Prop)
  (hs : ∀ i xs, i < n → Inv i xs → (∃ ys, step xs = some (0, ys) ∧ Inv (i + 1) ys) ∨ ∃ m ys, step xs = some (m + 1, ys) ∧ Post (m + 1, ys))
  (he : ∀ xs, Inv n xs → ∃ m ys, step xs = some (m + 1, ys) ∧ Post (m + 1, ys)) {xs : List U} (h0 : Inv 0 xs) : xay step xs ∧ Post (xaC step xs) := by
 have key : ∀ k i xs, k + i = n → Inv i xs → ∃ r, xkg step (k + 1) xs = some r ∧ Post r := by
  intro k
  induction k with
  | zero =>
   intro i xs hi h
   obtain rfl : i = n := by omega
   obtain ⟨m, ys, h1, h2⟩ := he _ h
   exact ⟨_, xv4 h1, h2⟩
  | succ k ih =>
   intro i xs hi h
   rcases hs i xs (by omega) h with ⟨ys, h1, h2⟩ | ⟨m, ys, h1, h2⟩
   ·obtain ⟨r, h3, h4⟩ := ih (i + 1) ys (by omega) h2
    exact ⟨r, xpA h1 h3, h4⟩
   ·refine ⟨(m + 1, ys), ?_, h2⟩
    unfold xkg; rw [h1]
 obtain ⟨r, h1, h2⟩ := key n 0 xs rfl h0
 obtain ⟨h3, h4⟩ := xvS h1
 rw [h4]; exact ⟨h3, h2⟩
end Go.Sy
