/-
  The executor is sound: the shape of a loop's state.
-/
import Derived.Test.YtcbgjecpnhjlpaaSyN
set_option linter.unusedVariables false
namespace Go.Sy
open Go.RowKit
section
variable {P : Program} {X : List (Nat × Go.Obj)} {w0 w : World} {base : Nat}

/-! ### values of some shape -/
/-- What a match leaves: more names, more leaves. -/
structure MExt (m m' : MS) : Prop where
  us : ∃ r, m'.us = r ++ m.us
  km : ∀ k u, lookK k m.km = some u → lookK k m'.km = some u
theorem MExt.refl (m : MS) : MExt m m := ⟨⟨[], rfl⟩, fun _ _ h => h⟩
theorem MExt.trans {a b c : MS} (h : MExt a b) (k : MExt b c) : MExt a c := by
  obtain ⟨r, hr⟩ := h.us
  obtain ⟨s, hs⟩ := k.us
  exact ⟨⟨s ++ r, by rw [hs, hr, List.append_assoc]⟩, fun x u hx => k.km x u (h.km x u hx)⟩
/-- The leaves read so far stand at the head of xs. -/
def Pre (us : List U) (xs : List U) : Prop := ∃ t, xs = us.reverse ++ t
theorem Pre.of_ext {m m' : MS} {xs : List U} (h : MExt m m') (hp : Pre m'.us xs) : Pre m.us xs := by
  obtain ⟨r, hr⟩ := h.us
  obtain ⟨t, ht⟩ := hp
  exact ⟨r.reverse ++ t, by rw [ht, hr]; simp⟩
theorem Pre.get {u : U} {us xs : List U} (h : Pre (u :: us) xs) : xs[us.length]? = some u := by
  obtain ⟨t, rfl⟩ := h
  simp
/-- What the names stand for. -/
structure KEnv (base : Nat) (E1 E2 : Env) (km : List (Nat × Option Nat)) : Prop where
  old : ∀ k, k < base → E2 k = E1 k
  new : ∀ k u, lookK k km = some u → E2 k = packVal E1 u
theorem KEnv.of_ext {E1 E2 : Env} {m m' : MS} (h : MExt m m') (hk : KEnv base E1 E2 m'.km) : KEnv base E1 E2 m.km := ⟨hk.old, fun k u hu => hk.new k u (h.km k u hu)⟩
def KeyIn (base : Nat) (km : List (Nat × Option Nat)) (k : Nat) : Prop := k < base ∨ ∃ u, lookK k km = some u
theorem keyIn_ext {m m' : MS} (h : MExt m m') {k : Nat} (hk : KeyIn base m.km k) : KeyIn base m'.km k := hk.imp id fun ⟨u, hu⟩ => ⟨u, h.km k u hu⟩

theorem addK_sound {k : Nat} {v : Option Nat} {m m' : MS} (h : addK k v m = some m') : MExt m m' ∧ lookK k m'.km = some v ∧ m'.us = m.us := by
  unfold addK at h
  split at h
  · rename_i hn
    cases h
    refine ⟨⟨⟨[], rfl⟩, fun k' u hu => ?_⟩, by simp [lookK, beq_self], rfl⟩
    by_cases hk : k' = k
    · subst hk; rw [hn] at hu; cases hu
    · simp only [lookK, beq_ne hk]; exact hu
  · rename_i u hu
    split at h
    · rename_i he
      cases h
      exact ⟨MExt.refl _, by rw [hu, he], rfl⟩
    · cases h
theorem sameC_eq {a b : Value} (h : sameC a b = true) : a = b := by
  unfold sameC at h
  split at h
  · rename_i x y; have e : x = y := by simpa using h
    rw [e]
  · rename_i k x k' y
    split at h
    · rename_i hk
      subst hk
      rw [of_decide_eq_true h]
    · cases h
  · rfl
  · rfl
  · rfl
  · rfl
  · rfl
  · cases h

/-- What a match says of one value. -/
structure VSays (base : Nat) (s v : AV) (m m' : MS) : Prop where
  ext : MExt m m'
  fill : ∀ xs, Pre m'.us xs → (fillV xs s m.us.length).2 = m'.us.length ∧ (∀ E1 E2, KEnv base E1 E2 m'.km → (fillV xs s m.us.length).1.den E2 = v.den E1) ∧ AV.all (KeyIn base m'.km) (fillV xs s m.us.length).1 ∧ (fillV xs s m.us.length).1.scalar = v.scalar
structure LSays (base : Nat) (s v : List AV) (m m' : MS) : Prop where
  ext : MExt m m'
  fill : ∀ xs, Pre m'.us xs → (fillL xs s m.us.length).2 = m'.us.length ∧ (∀ E1 E2, KEnv base E1 E2 m'.km → AV.denL E2 (fillL xs s m.us.length).1 = AV.denL E1 v) ∧ AV.allL (KeyIn base m'.km) (fillL xs s m.us.length).1 ∧ (fillL xs s m.us.length).1.length = v.length ∧ (fillL xs s m.us.length).1.all AV.scalar = v.all AV.scalar
theorem weak_scalar (v : AV) : v.weak.scalar = v.scalar := by
  cases v with
  | val x => cases x <;> rfl
  | _ => rfl
mutual
theorem matchV_sound : ∀ (s v : AV) (m m' : MS), matchV base s v m = some m' → VSays base s v m m'
  | .bool b, v, m, m', h => by
    unfold matchV at h
    split at h
    · rename_i b' hw
      cases h
      refine ⟨⟨⟨[.b b'], rfl⟩, fun _ _ h => h⟩, fun xs hp => ⟨by simp [fillV], fun E1 E2 _ => ?_, trivial, ?_⟩⟩
      · have := hp.get
        simp only [fillV, AV.den, gb, this]
        rw [← den_weak E1 v, hw]; rfl
      · rw [← weak_scalar v, hw]; rfl
    · cases h
  | .int k b, v, m, m', h => by
    unfold matchV at h
    split at h
    · rename_i k' n hw
      split at h
      · rename_i hk
        subst hk
        cases h
        refine ⟨⟨⟨[.i n], rfl⟩, fun _ _ h => h⟩, fun xs hp => ⟨by simp [fillV], fun E1 E2 _ => ?_, trivial, ?_⟩⟩
        · have := hp.get
          simp only [fillV, AV.den, gi, this]
          rw [← den_weak E1 v, hw]; rfl
        · rw [← weak_scalar v, hw]; rfl
      · cases h
    · cases h
  | .val c, v, m, m', h => by
    cases v with
    | val c' =>
      unfold matchV at h
      split at h
      · rename_i hc
        cases h
        have := sameC_eq hc
        subst this
        exact ⟨MExt.refl _, fun xs _ => ⟨rfl, fun _ _ _ => rfl, trivial, rfl⟩⟩
      · cases h
    | _ => simp [matchV] at h
  | .ptr k off, v, m, m', h => by
    cases v with
    | ptr k' off' =>
      unfold matchV at h
      split at h
      · rename_i hc
        obtain ⟨rfl, rfl, hk⟩ := hc
        cases h
        exact ⟨MExt.refl _, fun xs _ => ⟨rfl, fun E1 E2 he => by simp [fillV, AV.den, he.old k hk], .inl hk, rfl⟩⟩
      · cases h
    | _ => simp [matchV] at h
  | .yl k, v, m, m', h => by
    cases v with
    | yl k' =>
      unfold matchV at h
      split at h
      · rename_i hc
        obtain ⟨rfl, hk⟩ := hc
        cases h
        exact ⟨MExt.refl _, fun xs _ => ⟨rfl, fun E1 E2 he => by simp [fillV, AV.den, he.old k hk], .inl hk, rfl⟩⟩
      · cases h
    | _ => simp [matchV] at h
  | .sl k, v, m, m', h => by
    cases v with
    | sl k' =>
      unfold matchV at h
      split at h
      · rename_i hk
        have hk : k < base := by simpa using hk
        split at h
        · rename_i he
          subst he
          cases h
          exact ⟨MExt.refl _, fun xs _ => ⟨rfl, fun E1 E2 he => he.old k hk, .inl hk, rfl⟩⟩
        · cases h
      · obtain ⟨h1, h2, h3⟩ := addK_sound h
        exact ⟨h1, fun xs _ => ⟨by rw [h3]; rfl, fun E1 E2 he => he.new k _ h2, .inr ⟨_, h2⟩, rfl⟩⟩
    | val c =>
      by_cases hc : c = .slice none 0 0
      · subst hc
        simp only [matchV] at h
        split at h
        · cases h
        · obtain ⟨h1, h2, h3⟩ := addK_sound h
          exact ⟨h1, fun xs _ => ⟨by rw [h3]; rfl, fun E1 E2 he => he.new _ _ h2, .inr ⟨_, h2⟩, rfl⟩⟩
      · have e : matchV base (.sl k) (.val c) m = none := by
          unfold matchV
          split <;> first | rfl | (exfalso; simp only [reduceCtorEq] at *; done) | (exfalso; simp_all; done)
        rw [e] at h; cases h
    | _ => simp [matchV] at h
  | .fn f a b, v, m, m', h => by
    cases v with
    | fn f' a' b' =>
      unfold matchV at h
      split at h
      · rename_i hf
        subst hf
        split at h
        · rename_i m1 h1
          have r1 := matchL_sound a a' m m1 h1
          have r2 := matchL_sound b b' m1 m' h
          refine ⟨r1.ext.trans r2.ext, fun xs hp => ?_⟩
          obtain ⟨a1, a2, a3, a4, a5⟩ := r1.fill xs (hp.of_ext r2.ext)
          obtain ⟨b1, b2, b3, b4, b5⟩ := r2.fill xs hp
          have e : fillV xs (.fn f a b) m.us.length = (.fn f (fillL xs a m.us.length).1 (fillL xs b m1.us.length).1, m'.us.length) := by
            simp only [fillV, a1, b1]
          rw [e]
          refine ⟨rfl, fun E1 E2 he => ?_, ⟨allL_imp (fun k hk => keyIn_ext r2.ext hk) _ a3, b3⟩, rfl⟩
          simp only [AV.den, a2 E1 E2 (he.of_ext r2.ext), b2 E1 E2 he]
        · cases h
      · cases h
    | _ => simp [matchV] at h
  | .agg cs, v, m, m', h => by
    cases v with
    | agg cs' =>
      unfold matchV at h
      have r := matchL_sound cs cs' m m' h
      refine ⟨r.ext, fun xs hp => ?_⟩
      obtain ⟨a1, a2, a3, a4, a5⟩ := r.fill xs hp
      have e : fillV xs (.agg cs) m.us.length = (.agg (fillL xs cs m.us.length).1, m'.us.length) := by simp only [fillV, a1]
      rw [e]
      exact ⟨rfl, fun E1 E2 he => by simp only [AV.den, a2 E1 E2 he], a3, rfl⟩
    | _ => simp [matchV] at h
  | .tup cs, v, m, m', h => by
    cases v with
    | tup cs' =>
      unfold matchV at h
      have r := matchL_sound cs cs' m m' h
      refine ⟨r.ext, fun xs hp => ?_⟩
      obtain ⟨a1, a2, a3, a4, a5⟩ := r.fill xs hp
      have e : fillV xs (.tup cs) m.us.length = (.tup (fillL xs cs m.us.length).1, m'.us.length) := by simp only [fillV, a1]
      rw [e]
      exact ⟨rfl, fun E1 E2 he => by simp only [AV.den, a2 E1 E2 he], a3, rfl⟩
    | _ => simp [matchV] at h
  | .ix _ _ _ _ _, v, m, m', h => by cases v <;> simp [matchV] at h
  | .vw _ _ _ _, v, m, m', h => by cases v <;> simp [matchV] at h
theorem matchL_sound : ∀ (s v : List AV) (m m' : MS), matchL base s v m = some m' → LSays base s v m m'
  | [], [], m, m', h => by cases h; exact ⟨MExt.refl _, fun xs _ => ⟨rfl, fun _ _ _ => rfl, trivial, rfl, rfl⟩⟩
  | a :: r, a' :: r', m, m', h => by
    unfold matchL at h
    split at h
    · rename_i m1 h1
      have r1 := matchV_sound a a' m m1 h1
      have r2 := matchL_sound r r' m1 m' h
      refine ⟨r1.ext.trans r2.ext, fun xs hp => ?_⟩
      obtain ⟨a1, a2, a3, a5⟩ := r1.fill xs (hp.of_ext r2.ext)
      obtain ⟨b1, b2, b3, b4, b5⟩ := r2.fill xs hp
      have e : fillL xs (a :: r) m.us.length = ((fillV xs a m.us.length).1 :: (fillL xs r m1.us.length).1, m'.us.length) := by
        simp only [fillL, a1, b1]
      rw [e]
      refine ⟨rfl, fun E1 E2 he => ?_, ⟨all_imp (fun k hk => keyIn_ext r2.ext hk) _ a3, b3⟩, by simp [b4], by simp [a5, b5]⟩
      simp only [AV.denL, a2 E1 E2 (he.of_ext r2.ext), b2 E1 E2 he]
    · cases h
  | [], _ :: _, _, _, h => by simp [matchL] at h
  | _ :: _, [], _, _, h => by simp [matchL] at h
end
structure LLSays (base : Nat) (s v : List (List AV)) (m m' : MS) : Prop where
  ext : MExt m m'
  fill : ∀ xs, Pre m'.us xs → (fillLL xs s m.us.length).2 = m'.us.length ∧ (∀ E1 E2, KEnv base E1 E2 m'.km → AV.denL E2 (fillLL xs s m.us.length).1.flatten = AV.denL E1 v.flatten) ∧ AV.allL (KeyIn base m'.km) (fillLL xs s m.us.length).1.flatten ∧
    (fillLL xs s m.us.length).1.map List.length = v.map List.length ∧ (fillLL xs s m.us.length).1.flatten.all AV.scalar = v.flatten.all AV.scalar
theorem matchLL_sound : ∀ (s v : List (List AV)) (m m' : MS), matchLL base s v m = some m' → LLSays base s v m m'
  | [], [], m, m', h => by cases h; exact ⟨MExt.refl _, fun xs _ => ⟨rfl, fun _ _ _ => rfl, trivial, rfl, rfl⟩⟩
  | a :: r, a' :: r', m, m', h => by
    unfold matchLL at h
    split at h
    · rename_i m1 h1
      have r1 := matchL_sound a a' m m1 h1
      have r2 := matchLL_sound r r' m1 m' h
      refine ⟨r1.ext.trans r2.ext, fun xs hp => ?_⟩
      obtain ⟨a1, a2, a3, a4, a5⟩ := r1.fill xs (hp.of_ext r2.ext)
      obtain ⟨b1, b2, b3, b4, b5⟩ := r2.fill xs hp
      have e : fillLL xs (a :: r) m.us.length = ((fillL xs a m.us.length).1 :: (fillLL xs r m1.us.length).1, m'.us.length) := by
        simp only [fillLL, a1, b1]
      rw [e]
      refine ⟨rfl, fun E1 E2 he => ?_, ?_, by simp [a4, b4], by simp [a5, b5, List.all_append]⟩
      · simp only [List.flatten_cons]
        rw [denL_map, denL_map, List.map_append, List.map_append, ← denL_map, ← denL_map, ← denL_map, ← denL_map, a2 E1 E2 (he.of_ext r2.ext), b2 E1 E2 he]
      · simp only [List.flatten_cons]
        rw [allL_iff] at *
        intro y hy
        rcases List.mem_append.1 hy with hy | hy
        · exact all_imp (fun k hk => keyIn_ext r2.ext hk) _ (a3 y hy)
        · exact b3 y hy
    · cases h
  | [], _ :: _, _, _, h => by simp [matchLL] at h
  | _ :: _, [], _, _, h => by simp [matchLL] at h

/-! ### objects of some shape -/
structure BSays (P : Program) (base : Nat) (s b : Body) (m m' : MS) : Prop where
  ext : MExt m m'
  fill : ∀ xs, Pre m'.us xs → (fillB xs s m.us.length).2 = m'.us.length ∧ (∀ (E1 E2 : Env) (w : World) (k1 k2 : Nat) (own : Bool), KEnv base E1 E2 m'.km → E2 k2 = E1 k1 → BodyOk E1 w k1 own b → BodyOk E2 w k2 own (fillB xs s m.us.length).1) ∧ BodyAll (KeyIn base m'.km) (fillB xs s m.us.length).1
theorem samePend_eq : ∀ {a b : Option Code}, samePend a b = true → a = b := by
  intro a b h
  unfold samePend at h
  split at h
  · rfl
  · rfl
  · rw [Nat.eq_of_beq_eq_true h]
  · cases h
theorem matchB_sound {s b : Body} {m m' : MS} (h : matchB P base s b m = some m') : BSays P base s b m m' := by
  cases s with
  | cells cs =>
    cases b with
    | cells cs' =>
      simp only [matchB] at h
      have r := matchL_sound cs cs' m m' h
      refine ⟨r.ext, fun xs hp => ?_⟩
      obtain ⟨a1, a2, a3, a4, a5⟩ := r.fill xs hp
      have e : fillB xs (.cells cs) m.us.length = (.cells (fillL xs cs m.us.length).1, m'.us.length) := by simp only [fillB, a1]
      rw [e]
      refine ⟨rfl, fun E1 E2 w k1 k2 own he hk hb => ?_, a3⟩
      obtain ⟨g, T, h1, h2⟩ := hb
      exact ⟨g, T, hk.trans h1, by rw [a2 E1 E2 he]; exact h2⟩
    | _ => simp [matchB] at h
  | row e ks l =>
    have fillrow : ∀ xs, fillB xs (.row e ks l) m.us.length = (.row e ks (gr xs m.us.length), m.us.length + 1) := fun xs => rfl
    have common : (match rowOf P b with
        | some (e', ks', l) => if e = e' ∧ ks = ks' then some { m with us := .r l :: m.us } else none
        | none => none) = some m' → BSays P base (.row e ks l) b m m' := by
      intro h
      split at h
      · rename_i e' ks' l' hr
        split at h
        · rename_i hc
          obtain ⟨rfl, rfl⟩ := hc
          cases h
          refine ⟨⟨⟨[.r l'], rfl⟩, fun _ _ h => h⟩, fun xs hp => ?_⟩
          rw [fillrow]
          refine ⟨by simp, fun E1 E2 w k1 k2 own he hk hb => ?_, bodyAll_row⟩
          have := hp.get
          simp only [gr, this]
          have hrow := rowOf_row hr hb
          show RowOk w own e ks.length (E2 k2) l'.length (rowV ks l')
          rw [hk]; exact hrow
        · cases h
      · cases h
    cases b with
    | nil =>
      simp only [matchB] at h
      cases h
      refine ⟨⟨⟨[.r []], rfl⟩, fun _ _ h => h⟩, fun xs hp => ?_⟩
      rw [fillrow]
      refine ⟨by simp, fun E1 E2 w k1 k2 own he hk hb => ?_, bodyAll_row⟩
      have := hp.get
      simp only [gr, this]
      have hb : E1 k1 = .slice none 0 0 := hb
      exact bodyOk_nilRow (hk.trans hb)
    | row e' ks' l' => exact common h
    | arr e' sz' els' => exact common h
    | cells cs => exact common h
    | mp => exact common h
    | fin => exact common h
    | loop => exact common h
  | arr e sz els =>
    cases b with
    | arr e' sz' els' =>
      simp only [matchB] at h
      split at h
      · rename_i hc
        obtain ⟨rfl, rfl⟩ := hc
        have r := matchLL_sound els els' m m' h
        refine ⟨r.ext, fun xs hp => ?_⟩
        obtain ⟨a1, a2, a3, a4, a5⟩ := r.fill xs hp
        have e1 : fillB xs (.arr e sz els) m.us.length = (.arr e sz (fillLL xs els m.us.length).1, m'.us.length) := by simp only [fillB, a1]
        rw [e1]
        refine ⟨rfl, fun E1 E2 w k1 k2 own he hk hb => ?_, a3⟩
        obtain ⟨h1, h2, h3⟩ := hb
        refine ⟨?_, fun el hel => ?_, by rw [a5]; exact h3⟩
        · have hlen : (fillLL xs els m.us.length).1.length = els'.length := by simpa using congrArg List.length a4
          rw [hk, hlen, a2 E1 E2 he]; exact h1
        · have : el.length ∈ (fillLL xs els m.us.length).1.map List.length := List.mem_map.2 ⟨el, hel, rfl⟩
          rw [a4] at this
          obtain ⟨el', hel', hl⟩ := List.mem_map.1 this
          rw [← hl]; exact h2 el' hel'
      · cases h
    | _ => simp [matchB] at h
  | nil =>
    cases b with
    | nil =>
      cases h
      exact ⟨MExt.refl _, fun xs _ => ⟨rfl, fun E1 E2 w k1 k2 own he hk hb => hk.trans hb, bodyAll_nil⟩⟩
    | _ => simp [matchB] at h
  | mp kt et q n ke l0 =>
    cases b with
    | mp kt' et' q' n' ke' l =>
      simp only [matchB] at h
      split at h
      · rename_i hc
        obtain ⟨rfl, rfl, rfl, rfl, rfl⟩ := hc
        cases h
        refine ⟨⟨⟨[.r l], rfl⟩, fun _ _ h => h⟩, fun xs hp => ⟨by simp [fillB], fun E1 E2 w k1 k2 own he hk hb => ?_, trivial⟩⟩
        have hg := hp.get
        obtain ⟨b, es, clock, h1, h2, h3, h4, h5⟩ := hb
        have e : (fillB xs (.mp kt et q n ke l0) m.us.length).1 = .mp kt et q n ke l := by simp only [fillB, gr, hg]
        rw [e]
        exact ⟨b, es, clock, hk.trans h1, h2, h3, h4, h5⟩
      · cases h
    | _ => simp [matchB] at h
  | loop => cases b <;> simp [matchB] at h
  | fin st pend =>
    cases b with
    | fin st' pend' =>
      simp only [matchB] at h
      split at h
      · rename_i hc
        rw [Bool.and_eq_true] at hc
        have e1 := Nat.eq_of_beq_eq_true hc.1
        have e2 := samePend_eq hc.2
        subst e1 e2
        cases h
        exact ⟨MExt.refl _, fun xs _ => ⟨rfl, fun E1 E2 w k1 k2 own he hk hb => by
          obtain ⟨l, r, h1, h2⟩ := hb
          exact ⟨l, r, hk.trans h1, h2⟩, trivial⟩⟩
      · cases h
    | _ => simp [matchB] at h

theorem matchSlots_sound {tmps : Nat → Option AV} : ∀ (l : List (Nat × AV)) (m m' : MS), matchSlots base tmps l m = some m' → MExt m m' ∧ ∀ xs, Pre m'.us xs → (fillSlots xs l m.us.length).2 = m'.us.length ∧
    ∀ t v, lookupT t (fillSlots xs l m.us.length).1 = some v → ∃ v', tmps t = some v' ∧ AV.all (KeyIn base m'.km) v ∧ ∀ E1 E2, KEnv base E1 E2 m'.km → v.den E2 = v'.den E1
  | [], m, m', h => by cases h; exact ⟨MExt.refl _, fun xs _ => ⟨rfl, fun t v h => by cases h⟩⟩
  | (t, s) :: r, m, m', h => by
    unfold matchSlots at h
    split at h
    · rename_i v0 hv0
      split at h
      · rename_i m1 h1
        have r1 := matchV_sound s v0 m m1 h1
        obtain ⟨r2, r3⟩ := matchSlots_sound r m1 m' h
        refine ⟨r1.ext.trans r2, fun xs hp => ?_⟩
        obtain ⟨a1, a2, a3, a4⟩ := r1.fill xs (hp.of_ext r2)
        obtain ⟨b1, b2⟩ := r3 xs hp
        have e : fillSlots xs ((t, s) :: r) m.us.length = ((t, (fillV xs s m.us.length).1) :: (fillSlots xs r m1.us.length).1, m'.us.length) := by
          simp only [fillSlots, a1, b1]
        rw [e]
        refine ⟨rfl, fun t' v ht => ?_⟩
        simp only [lookupT] at ht
        split at ht
        · rename_i hb
          cases ht
          rw [Nat.eq_of_beq_eq_true hb]
          exact ⟨v0, hv0, all_imp (fun k hk => keyIn_ext r2 hk) _ a3, fun E1 E2 he => a2 E1 E2 (he.of_ext r2)⟩
        · exact b2 t' v ht
      · cases h
    · cases h
theorem fillObjs_keys {xs : List U} {ver : Nat} : ∀ (l : List Obj) (j : Nat), (fillObjs ver xs l j).1.map (fun o => o.key) = l.map fun o => o.key
  | [], j => rfl
  | o :: r, j => by simp [fillObjs, fillObjs_keys r]
theorem matchObjs_sound {objs : List Obj} {ver : Nat} : ∀ (l : List Obj) (m m' : MS), matchObjs P base objs l m = some m' → MExt m m' ∧ ∀ xs, Pre m'.us xs → (fillObjs ver xs l m.us.length).2 = m'.us.length ∧
    ∀ o ∈ (fillObjs ver xs l m.us.length).1, o.ver = ver ∧ (∃ s ∈ l, s.key = o.key) ∧ BodyAll (KeyIn base m'.km) o.body ∧ ∃ o' ∈ objs, o'.key = o.key ∧ (o.own = true → o'.own = true) ∧
      ∀ (E1 E2 : Env) (w : World), KEnv base E1 E2 m'.km → E2 o.key = E1 o.key → BodyOk E1 w o.key o'.own o'.body → BodyOk E2 w o.key o.own o.body
  | [], m, m', h => by cases h; exact ⟨MExt.refl _, fun xs _ => ⟨rfl, fun o ho => by cases ho⟩⟩
  | s :: r, m, m', h => by
    unfold matchObjs at h
    split at h
    · rename_i o' ho'
      obtain ⟨hm, hk⟩ := findObj_mem ho'
      split at h
      · rename_i hown
        split at h
        · rename_i m1 h1
          have r1 := matchB_sound h1
          obtain ⟨r2, r3⟩ := matchObjs_sound (ver := ver) r m1 m' h
          refine ⟨r1.ext.trans r2, fun xs hp => ?_⟩
          obtain ⟨a1, a2, a3⟩ := r1.fill xs (hp.of_ext r2)
          obtain ⟨b1, b2⟩ := r3 xs hp
          have e : fillObjs ver xs (s :: r) m.us.length = (⟨s.key, ver, s.own, (fillB xs s.body m.us.length).1⟩ :: (fillObjs ver xs r m1.us.length).1, m'.us.length) := by
            simp only [fillObjs, a1, b1]
          rw [e]
          refine ⟨rfl, fun o ho => ?_⟩
          rcases List.mem_cons.1 ho with rfl | ho
          · refine ⟨rfl, ⟨s, by simp, rfl⟩, bodyAll_imp (fun k hk => keyIn_ext r2 hk) a3, o', hm, hk, ?_, fun E1 E2 w he hke hb => ?_⟩
            · intro ht
              rcases hown with h2 | h2
              · rw [← h2]; exact ht
              · rw [h2] at ht; cases ht
            · have hb2 := a2 E1 E2 w s.key s.key o'.own (he.of_ext r2) hke hb
              rcases hown with h2 | h2
              · simp only []; rw [h2]; exact hb2
              · simp only []; rw [h2]
                generalize (fillB xs s.body m.us.length).1 = bb at hb2
                cases bb with
                | cells => exact hb2
                | row e ks l => exact ⟨hb2.reads, hb2.len, fun h => by cases h⟩
                | arr e sz els => exact ⟨⟨hb2.1.reads, hb2.1.len, fun h => by cases h⟩, hb2.2⟩
                | nil => exact hb2
                | mp => exact hb2
                | fin => exact hb2
                | loop => exact hb2
          · obtain ⟨p1, ⟨s', p2, p3⟩, p4⟩ := b2 o ho
            exact ⟨p1, ⟨s', by simp [p2], p3⟩, p4⟩
        · cases h
      · cases h
    · cases h
theorem matchRows_sound {objs : List Obj} {ver : Nat} {km : List (Nat × Option Nat)} : ∀ (l : List (TypeId × List CK)) (k : Nat) (m m' : MS), m.km = km → matchRows P objs k l m = some m' → m'.km = km ∧ (∃ r, m'.us = r ++ m.us) ∧ ∀ xs, Pre m'.us xs →
    ∀ o ∈ fillRows ver xs k l m.us.length, o.ver = ver ∧ o.own = true ∧ k ≤ o.key ∧ o.key < k + l.length ∧ flatBody o.body = true ∧
      ((∃ o' ∈ objs, lookK o.key km = some (some o'.key) ∧ o'.own = true ∧ ∀ (E1 E2 : Env) (w : World), E2 o.key = E1 o'.key → BodyOk E1 w o'.key true o'.body → BodyOk E2 w o.key true o.body) ∨
       ((∀ k', lookK o.key km ≠ some (some k')) ∧ ∀ (E2 : Env) (w : World), E2 o.key = .slice none 0 0 → BodyOk E2 w o.key true o.body))
  | [], k, m, m', hkm, h => by cases h; exact ⟨hkm, ⟨[], rfl⟩, fun xs _ o ho => by cases ho⟩
  | (e, ks) :: r, k, m, m', hkm, h => by
    unfold matchRows at h
    split at h
    · rename_i k' hk'
      split at h
      · rename_i ok ov b ho'
        split at h
        · rename_i m1 h1
          have r1 := matchB_sound h1
          obtain ⟨hm, hkk⟩ := findObj_mem ho'
          have hkk : ok = k' := hkk
          subst hkk
          have hkm1 : m1.km = km := by
            have : m1.km = m.km := by
              unfold matchB at h1
              simp only [] at h1
              split at h1
              · cases h1; rfl
              · split at h1
                · split at h1
                  · cases h1; rfl
                  · cases h1
                · cases h1
            rw [this, hkm]
          obtain ⟨r2, ⟨r3, hr3⟩, r4⟩ := matchRows_sound (ver := ver) r (k + 1) m1 m' hkm1 h
          obtain ⟨q, hq⟩ := r1.ext.us
          refine ⟨r2, ⟨r3 ++ q, by rw [hr3, hq, List.append_assoc]⟩, fun xs hp o ho => ?_⟩
          have hp1 : Pre m1.us xs := by
            obtain ⟨t, ht⟩ := hp
            exact ⟨r3.reverse ++ t, by rw [ht, hr3]; simp⟩
          obtain ⟨a1, a2, a3⟩ := r1.fill xs hp1
          have hl : m1.us.length = m.us.length + 1 := by rw [← a1]; rfl
          simp only [fillRows] at ho
          rcases List.mem_cons.1 ho with rfl | ho
          · refine ⟨rfl, rfl, Nat.le_refl _, by simp, rfl, .inl ⟨_, hm, by rw [← hkm]; exact hk', rfl, fun E1 E2 w he hb => ?_⟩⟩
            have hkenv : KEnv 0 E1 (fun x => packVal E1 ((lookK x m1.km).getD none)) m1.km := ⟨fun k hk => by omega, fun k u hu => by simp [hu]⟩
            have e2 : (fun x => packVal E1 ((lookK x m1.km).getD none)) k = E1 ok := by
              show packVal E1 ((lookK k m1.km).getD none) = E1 ok
              rw [hkm1, ← hkm, hk']; rfl
            have hb2 := a2 E1 _ w ok k true hkenv e2 hb
            have hb2 : RowOk w true e ks.length _ (gr xs m.us.length).length (rowV ks (gr xs m.us.length)) := hb2
            show RowOk w true e ks.length (E2 k) (gr xs m.us.length).length (rowV ks (gr xs m.us.length))
            rw [he, ← e2]
            exact hb2
          · obtain ⟨p1, p2, p3, p4, p5, p6⟩ := r4 xs hp o (by rw [hl]; exact ho)
            exact ⟨p1, p2, by omega, by simp; omega, p5, p6⟩
        · cases h
      · cases h
    · rename_i hne
      obtain ⟨r2, ⟨r3, hr3⟩, r4⟩ := matchRows_sound (ver := ver) r (k + 1) _ m' (by exact hkm) h
      refine ⟨r2, ⟨r3 ++ [.r []], by rw [hr3]; simp⟩, fun xs hp o ho => ?_⟩
      have hp1 : Pre (U.r [] :: m.us) xs := by
        obtain ⟨t, ht⟩ := hp
        exact ⟨r3.reverse ++ t, by rw [ht, hr3]; simp⟩
      simp only [fillRows] at ho
      rcases List.mem_cons.1 ho with rfl | ho
      · have := hp1.get
        refine ⟨rfl, rfl, Nat.le_refl _, by simp, rfl, .inr ⟨fun k' hk' => hne k' (by rw [hkm]; exact hk'), fun E2 w he => ?_⟩⟩
        simp only [gr, this]
        exact bodyOk_nilRow he
      · obtain ⟨p1, p2, p3, p4, p5, p6⟩ := r4 xs hp o (by simpa using ho)
        exact ⟨p1, p2, by omega, by simp; omega, p5, p6⟩
end
end Go.Sy
