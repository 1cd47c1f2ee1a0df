/-
 The executor is sound: the shape of a loop's state.
-/
import Derived.Test.YtnijhjpaplihbaaGreatSyN
set_option linter.unusedVariables false
namespace Go.Sy
open Go.RowKit
section
variable {P : Program} {X : List (Nat × Go.Obj)} {w0 w : World} {base : Nat}
structure MExt (m m' : MS) : Prop where
 us : ∃ r, m'.us = r ++ m.us
 km : ∀ k u, xiT k m.km = some u → xiT k m'.km = some u
theorem MExt.refl (m : MS) : MExt m m := ⟨⟨[], rfl⟩, fun _ _ h => h⟩
theorem MExt.trans {a b c : MS} (h : MExt a b) (k : MExt b c) : MExt a c := by
 obtain ⟨r, hr⟩ := h.us
 obtain ⟨s, hs⟩ := k.us
 exact ⟨⟨s ++ r, by rw [hs, hr, List.append_assoc]⟩, fun x u hx => k.km x u (h.km x u hx)⟩
def Pre (us : List U) (xs : List U) : Prop := ∃ t, xs = us.reverse ++ t
theorem Pre.of_ext {m m' : MS} {xs : List U} (h : MExt m m') (hp : Pre m'.us xs) : Pre m.us xs := by
 obtain ⟨r, hr⟩ := h.us
 obtain ⟨t, ht⟩ := hp
 exact ⟨r.reverse ++ t, by rw [ht, hr]; simp⟩
theorem Pre.get {u : U} {us xs : List U} (h : Pre (u :: us) xs) : xs[us.length]? = some u := by
 obtain ⟨t, rfl⟩ := h
 simp
structure KEnv (base : Nat) (E1 E2 : Env) (km : List (Nat × Option Nat)) : Prop where
 old : ∀ k, k < base → E2 k = E1 k
 new : ∀ k u, xiT k km = some u → E2 k = xfp E1 u
theorem KEnv.of_ext {E1 E2 : Env} {m m' : MS} (h : MExt m m') (hk : KEnv base E1 E2 m'.km) : KEnv base E1 E2 m.km := ⟨hk.old, fun k u hu => hk.new k u (h.km k u hu)⟩
def xuF (base : Nat) (km : List (Nat × Option Nat)) (k : Nat) : Prop := k < base ∨ ∃ u, xiT k km = some u
theorem xlk {m m' : MS} (h : MExt m m') {k : Nat} (hk : xuF base m.km k) : xuF base m'.km k := hk.imp id fun ⟨u, hu⟩ => ⟨u, h.km k u hu⟩
theorem xve {k : Nat} {v : Option Nat} {m m' : MS} (h : addK k v m = some m') : MExt m m' ∧ xiT k m'.km = some v ∧ m'.us = m.us := by
 unfold addK at h
 split at h
 ·rename_i hn
  cases h
  refine ⟨⟨⟨[], rfl⟩, fun k' u hu => ?_⟩, by simp [xiT, xdM], rfl⟩
  by_cases hk : k' = k
  ·subst hk; rw [hn] at hu; cases hu
  ·simp only [xiT, xil hk]; exact hu
 ·rename_i u hu
  split at h
  ·rename_i he
   cases h
   exact ⟨MExt.refl _, by rw [hu, he], rfl⟩
  ·cases h
theorem xB6 {a b : Value} (h : xB7 a b = true) : a = b := by
 unfold xB7 at h
 split at h
 ·rename_i x y; have e : x = y := by simpa using h
  rw [e]
 ·rename_i k x k' y
  split at h
  ·rename_i hk
   subst hk
   rw [of_decide_eq_true h]
  ·cases h
 ·rfl
 ·rfl
 ·rfl
 ·rfl
 ·rfl
 ·cases h
structure xGw (base : Nat) (s v : AV) (m m' : MS) : Prop where
 ext : MExt m m'
 fill : ∀ xs, Pre m'.us xs → (xhb xs s m.us.length).2 = m'.us.length ∧ (∀ E1 E2, KEnv base E1 E2 m'.km → (xhb xs s m.us.length).1.den E2 = v.den E1) ∧ AV.all (xuF base m'.km) (xhb xs s m.us.length).1 ∧ (xhb xs s m.us.length).1.scalar = v.scalar
structure xGx (base : Nat) (s v : List AV) (m m' : MS) : Prop where
 ext : MExt m m'
 fill : ∀ xs, Pre m'.us xs → (xe2 xs s m.us.length).2 = m'.us.length ∧ (∀ E1 E2, KEnv base E1 E2 m'.km → AV.denL E2 (xe2 xs s m.us.length).1 = AV.denL E1 v) ∧ AV.allL (xuF base m'.km) (xe2 xs s m.us.length).1 ∧ (xe2 xs s m.us.length).1.length = v.length ∧ (xe2 xs s m.us.length).1.all AV.scalar = v.all AV.scalar
theorem xsc (v : AV) : v.weak.scalar = v.scalar := by
 cases v with
 | val x => cases x <;> rfl
 | _ => rfl
mutual
theorem xrm : ∀ (s v : AV) (m m' : MS), xgr base s v m = some m' → xGw base s v m m'
 | .bool b, v, m, m', h => by
  unfold xgr at h
  split at h
  ·rename_i b' hw
   cases h
   refine ⟨⟨⟨[.b b'], rfl⟩, fun _ _ h => h⟩, fun xs hp => ⟨by simp [xhb], fun E1 E2 _ => ?_, trivial, ?_⟩⟩
   ·have := hp.get
    simp only [xhb, AV.den, gb, this]
    rw [← xg8 E1 v, hw]; rfl
   ·rw [← xsc v, hw]; rfl
  ·cases h
 | .int k b, v, m, m', h => by
  unfold xgr at h
  split at h
  ·rename_i k' n hw
   split at h
   ·rename_i hk
    subst hk
    cases h
    refine ⟨⟨⟨[.i n], rfl⟩, fun _ _ h => h⟩, fun xs hp => ⟨by simp [xhb], fun E1 E2 _ => ?_, trivial, ?_⟩⟩
    ·have := hp.get
     simp only [xhb, AV.den, gi, this]
     rw [← xg8 E1 v, hw]; rfl
    ·rw [← xsc v, hw]; rfl
   ·cases h
  ·cases h
 | .val c, v, m, m', h => by
  cases v with
  | val c' =>
   unfold xgr at h
   split at h
   ·rename_i hc
    cases h
    have := xB6 hc
    subst this
    exact ⟨MExt.refl _, fun xs _ => ⟨rfl, fun _ _ _ => rfl, trivial, rfl⟩⟩
   ·cases h
  | _ => simp [xgr] at h
 | .ptr k off, v, m, m', h => by
  cases v with
  | ptr k' off' =>
   unfold xgr at h
   split at h
   ·rename_i hc
    obtain ⟨rfl, rfl, hk⟩ := hc
    cases h
    exact ⟨MExt.refl _, fun xs _ => ⟨rfl, fun E1 E2 he => by simp [xhb, AV.den, he.old k hk], .inl hk, rfl⟩⟩
   ·cases h
  | _ => simp [xgr] at h
 | .yl k, v, m, m', h => by
  cases v with
  | yl k' =>
   unfold xgr at h
   split at h
   ·rename_i hc
    obtain ⟨rfl, hk⟩ := hc
    cases h
    exact ⟨MExt.refl _, fun xs _ => ⟨rfl, fun E1 E2 he => by simp [xhb, AV.den, he.old k hk], .inl hk, rfl⟩⟩
   ·cases h
  | _ => simp [xgr] at h
 | .sl k, v, m, m', h => by
  cases v with
  | sl k' =>
   unfold xgr at h
   split at h
   ·rename_i hk
    have hk : k < base := by simpa using hk
    split at h
    ·rename_i he
     subst he
     cases h
     exact ⟨MExt.refl _, fun xs _ => ⟨rfl, fun E1 E2 he => he.old k hk, .inl hk, rfl⟩⟩
    ·cases h
   ·obtain ⟨h1, h2, h3⟩ := xve h
    exact ⟨h1, fun xs _ => ⟨by rw [h3]; rfl, fun E1 E2 he => he.new k _ h2, .inr ⟨_, h2⟩, rfl⟩⟩
  | val c =>
   by_cases hc : c = .slice none 0 0
   ·subst hc
    simp only [xgr] at h
    split at h
    ·cases h
    ·obtain ⟨h1, h2, h3⟩ := xve h
     exact ⟨h1, fun xs _ => ⟨by rw [h3]; rfl, fun E1 E2 he => he.new _ _ h2, .inr ⟨_, h2⟩, rfl⟩⟩
   ·have e : xgr base (.sl k) (.val c) m = none := by
     unfold xgr
     split <;> first | rfl | (exfalso; simp only [reduceCtorEq] at *; done) | (exfalso; simp_all; done)
    rw [e] at h; cases h
  | _ => simp [xgr] at h
 | .fn f a b, v, m, m', h => by
  cases v with
  | fn f' a' b' =>
   unfold xgr at h
   split at h
   ·rename_i hf
    subst hf
    split at h
    ·rename_i m1 h1
     have r1 := xgM a a' m m1 h1
     have r2 := xgM b b' m1 m' h
     refine ⟨r1.ext.trans r2.ext, fun xs hp => ?_⟩
     obtain ⟨a1, a2, a3, a4, a5⟩ := r1.fill xs (hp.of_ext r2.ext)
     obtain ⟨b1, b2, b3, b4, b5⟩ := r2.fill xs hp
     have e : xhb xs (.fn f a b) m.us.length = (.fn f (xe2 xs a m.us.length).1 (xe2 xs b m1.us.length).1, m'.us.length) := by
      simp only [xhb, a1, b1]
     rw [e]
     refine ⟨rfl, fun E1 E2 he => ?_, ⟨xlU (fun k hk => xlk r2.ext hk) _ a3, b3⟩, rfl⟩
     simp only [AV.den, a2 E1 E2 (he.of_ext r2.ext), b2 E1 E2 he]
    ·cases h
   ·cases h
  | _ => simp [xgr] at h
 | .agg cs, v, m, m', h => by
  cases v with
  | agg cs' =>
   unfold xgr at h
   have r := xgM cs cs' m m' h
   refine ⟨r.ext, fun xs hp => ?_⟩
   obtain ⟨a1, a2, a3, a4, a5⟩ := r.fill xs hp
   have e : xhb xs (.agg cs) m.us.length = (.agg (xe2 xs cs m.us.length).1, m'.us.length) := by simp only [xhb, a1]
   rw [e]
   exact ⟨rfl, fun E1 E2 he => by simp only [AV.den, a2 E1 E2 he], a3, rfl⟩
  | _ => simp [xgr] at h
 | .tup cs, v, m, m', h => by
  cases v with
  | tup cs' =>
   unfold xgr at h
   have r := xgM cs cs' m m' h
   refine ⟨r.ext, fun xs hp => ?_⟩
   obtain ⟨a1, a2, a3, a4, a5⟩ := r.fill xs hp
   have e : xhb xs (.tup cs) m.us.length = (.tup (xe2 xs cs m.us.length).1, m'.us.length) := by simp only [xhb, a1]
   rw [e]
   exact ⟨rfl, fun E1 E2 he => by simp only [AV.den, a2 E1 E2 he], a3, rfl⟩
  | _ => simp [xgr] at h
 | .ix _ _ _ _ _, v, m, m', h => by cases v <;> simp [xgr] at h
 | .vw _ _ _ _, v, m, m', h => by cases v <;> simp [xgr] at h
theorem xgM : ∀ (s v : List AV) (m m' : MS), xmW base s v m = some m' → xGx base s v m m'
 | [], [], m, m', h => by cases h; exact ⟨MExt.refl _, fun xs _ => ⟨rfl, fun _ _ _ => rfl, trivial, rfl, rfl⟩⟩
 | a :: r, a' :: r', m, m', h => by
  unfold xmW at h
  split at h
  ·rename_i m1 h1
   have r1 := xrm a a' m m1 h1
   have r2 := xgM r r' m1 m' h
   refine ⟨r1.ext.trans r2.ext, fun xs hp => ?_⟩
   obtain ⟨a1, a2, a3, a5⟩ := r1.fill xs (hp.of_ext r2.ext)
   obtain ⟨b1, b2, b3, b4, b5⟩ := r2.fill xs hp
   have e : xe2 xs (a :: r) m.us.length = ((xhb xs a m.us.length).1 :: (xe2 xs r m1.us.length).1, m'.us.length) := by
    simp only [xe2, a1, b1]
   rw [e]
   refine ⟨rfl, fun E1 E2 he => ?_, ⟨xgk (fun k hk => xlk r2.ext hk) _ a3, b3⟩, by simp [b4], by simp [a5, b5]⟩
   simp only [AV.denL, a2 E1 E2 (he.of_ext r2.ext), b2 E1 E2 he]
  ·cases h
 | [], _ :: _, _, _, h => by simp [xmW] at h
 | _ :: _, [], _, _, h => by simp [xmW] at h
end
structure xEz (base : Nat) (s v : List (List AV)) (m m' : MS) : Prop where
 ext : MExt m m'
 fill : ∀ xs, Pre m'.us xs → (xln xs s m.us.length).2 = m'.us.length ∧ (∀ E1 E2, KEnv base E1 E2 m'.km → AV.denL E2 (xln xs s m.us.length).1.flatten = AV.denL E1 v.flatten) ∧ AV.allL (xuF base m'.km) (xln xs s m.us.length).1.flatten ∧
  (xln xs s m.us.length).1.map List.length = v.map List.length ∧ (xln xs s m.us.length).1.flatten.all AV.scalar = v.flatten.all AV.scalar
theorem xpy : ∀ (s v : List (List AV)) (m m' : MS), xqz base s v m = some m' → xEz base s v m m'
 | [], [], m, m', h => by cases h; exact ⟨MExt.refl _, fun xs _ => ⟨rfl, fun _ _ _ => rfl, trivial, rfl, rfl⟩⟩
 | a :: r, a' :: r', m, m', h => by
  unfold xqz at h
  split at h
  ·rename_i m1 h1
   have r1 := xgM a a' m m1 h1
   have r2 := xpy r r' m1 m' h
   refine ⟨r1.ext.trans r2.ext, fun xs hp => ?_⟩
   obtain ⟨a1, a2, a3, a4, a5⟩ := r1.fill xs (hp.of_ext r2.ext)
   obtain ⟨b1, b2, b3, b4, b5⟩ := r2.fill xs hp
   have e : xln xs (a :: r) m.us.length = ((xe2 xs a m.us.length).1 :: (xln xs r m1.us.length).1, m'.us.length) := by
    simp only [xln, a1, b1]
   rw [e]
   refine ⟨rfl, fun E1 E2 he => ?_, ?_, by simp [a4, b4], by simp [a5, b5, List.all_append]⟩
   ·simp only [List.flatten_cons]
    rw [xax, xax, List.map_append, List.map_append, ← xax, ← xax, ← xax, ← xax, a2 E1 E2 (he.of_ext r2.ext), b2 E1 E2 he]
   ·simp only [List.flatten_cons]
    rw [xfQ] at *
    intro y hy
    rcases List.mem_append.1 hy with hy | hy
    ·exact xgk (fun k hk => xlk r2.ext hk) _ (a3 y hy)
    ·exact b3 y hy
  ·cases h
 | [], _ :: _, _, _, h => by simp [xqz] at h
 | _ :: _, [], _, _, h => by simp [xqz] at h
def xjt (b0 b : Body) : Prop := (xqD b = true → xqD b0 = true) ∧ ∀ e ks l, b = .nst e ks l → b0 = .nst e ks l ∨ l = []
theorem xjt.flat {b0 b : Body} (h : xv9 b = true) : xjt b0 b := by
 cases b <;> first | (cases h; done) | exact ⟨(fun h => by cases h), fun _ _ _ h => (by cases h)⟩
theorem xjt.refl (b : Body) : xjt b b := ⟨fun h => h, fun _ _ _ h => .inl h⟩
theorem xjt.nst {b0 : Body} {e : TypeId} {ks : List NK} : xjt b0 (.nst e ks []) := ⟨(fun h => by cases h), fun _ _ _ h => by cases h; exact .inr rfl⟩
structure xDX (P : Program) (base : Nat) (s b : Body) (m m' : MS) : Prop where
 ext : MExt m m'
 fill : ∀ xs, Pre m'.us xs → (xjV xs s m.us.length).2 = m'.us.length ∧ (∀ (E1 E2 : Env) (w : World) (k1 k2 : Nat) (own : Bool), KEnv base E1 E2 m'.km → E2 k2 = E1 k1 → xbi E1 w k1 own b → xbi E2 w k2 own (xjV xs s m.us.length).1) ∧ xbh (xuF base m'.km) (xjV xs s m.us.length).1
 from_ : ∀ xs, Pre m'.us xs → xjt b (xjV xs s m.us.length).1
theorem xxZ : ∀ {a b : Option Code}, xvA a b = true → a = b := by
 intro a b h
 unfold xvA at h
 split at h
 ·rfl
 ·rfl
 ·rw [Nat.eq_of_beq_eq_true h]
 ·cases h
theorem xkx {s b : Body} {m m' : MS} (h : xfT P base s b m = some m') : xDX P base s b m m' := by
 cases s with
 | cells cs =>
  cases b with
  | cells cs' =>
   simp only [xfT] at h
   have r := xgM cs cs' m m' h
   refine ⟨r.ext, fun xs hp => ?_, fun xs hp => by simp only [xjV]; exact xjt.flat rfl⟩
   obtain ⟨a1, a2, a3, a4, a5⟩ := r.fill xs hp
   have e : xjV xs (.cells cs) m.us.length = (.cells (xe2 xs cs m.us.length).1, m'.us.length) := by simp only [xjV, a1]
   rw [e]
   refine ⟨rfl, fun E1 E2 w k1 k2 own he hk hb => ?_, a3⟩
   obtain ⟨g, T, h1, h2⟩ := hb
   exact ⟨g, T, hk.trans h1, by rw [a2 E1 E2 he]; exact h2⟩
  | _ => simp [xfT] at h
 | row e ks l =>
  have fillrow : ∀ xs, xjV xs (.row e ks l) m.us.length = (.row e ks (gr xs m.us.length), m.us.length + 1) := fun xs => rfl
  have common : (match xe6 P b with
    | some (e', ks', l) => if e = e' ∧ ks = ks' then some { m with us := .r l :: m.us } else none
    | none => none) = some m' → xDX P base (.row e ks l) b m m' := by
   intro h
   split at h
   ·rename_i e' ks' l' hr
    split at h
    ·rename_i hc
     obtain ⟨rfl, rfl⟩ := hc
     cases h
     refine ⟨⟨⟨[.r l'], rfl⟩, fun _ _ h => h⟩, fun xs hp => ?_, fun xs hp => xjt.flat rfl⟩
     rw [fillrow]
     refine ⟨by simp, fun E1 E2 w k1 k2 own he hk hb => ?_, xb0⟩
     have := hp.get
     simp only [gr, this]
     have hrow := xbT hr hb
     show xbc w own e ks.length (E2 k2) l'.length (rowV ks l')
     rw [hk]; exact hrow
    ·cases h
   ·cases h
  cases b with
  | nil =>
   simp only [xfT] at h
   cases h
   refine ⟨⟨⟨[.r []], rfl⟩, fun _ _ h => h⟩, fun xs hp => ?_, fun xs hp => xjt.flat rfl⟩
   rw [fillrow]
   refine ⟨by simp, fun E1 E2 w k1 k2 own he hk hb => ?_, xb0⟩
   have := hp.get
   simp only [gr, this]
   have hb : E1 k1 = .slice none 0 0 := hb
   exact xfP (hk.trans hb)
  | row e' ks' l' => exact common h
  | sub e' ks' l' => exact common h
  | nst e' ks' l' => exact common h
  | arr e' sz' els' => exact common h
  | cells cs => exact common h
  | mp => exact common h
  | fin => exact common h
  | loop => exact common h
 | nst e ks l =>
  have fillrow : ∀ xs, xjV xs (.nst e ks l) m.us.length = (.nst e ks (gr xs m.us.length), m.us.length + 1) := fun xs => rfl
  cases b with
  | nil =>
   simp only [xfT] at h
   cases h
   refine ⟨⟨⟨[.r []], rfl⟩, fun _ _ h => h⟩, fun xs hp => ?_, fun xs hp => by rw [fillrow]; have := hp.get; simp only [gr, this]; exact xjt.nst⟩
   rw [fillrow]
   refine ⟨by simp, fun E1 E2 w k1 k2 own he hk hb => ?_, trivial⟩
   have := hp.get
   simp only [gr, this]
   have hb : E1 k1 = .slice none 0 0 := hb
   exact xrC.ok (x := .nil) (.inr ⟨rfl, .inr ⟨e, ks, rfl⟩⟩) (hk.trans hb)
  | nst e' ks' l' =>
   simp only [xfT] at h
   split at h
   ·rename_i hc
    obtain ⟨rfl, rfl⟩ := hc
    cases h
    refine ⟨⟨⟨[.r l'], rfl⟩, fun _ _ h => h⟩, fun xs hp => ?_, fun xs hp => by rw [fillrow]; have := hp.get; simp only [gr, this]; exact xjt.refl _⟩
    rw [fillrow]
    refine ⟨by simp, fun E1 E2 w k1 k2 own he hk hb => ?_, trivial⟩
    have := hp.get
    simp only [gr, this]
    obtain ⟨vs, hb⟩ := hb
    exact ⟨vs, by rw [hk]; exact hb⟩
   ·cases h
  | _ => simp [xfT] at h
 | sub e ks l =>
  have fillrow : ∀ xs, xjV xs (.sub e ks l) m.us.length = (.sub e ks (gr xs m.us.length), m.us.length + 1) := fun xs => rfl
  cases b with
  | sub e' ks' l' =>
   simp only [xfT] at h
   split at h
   ·rename_i hc
    obtain ⟨rfl, rfl⟩ := hc
    cases h
    refine ⟨⟨⟨[.r l'], rfl⟩, fun _ _ h => h⟩, fun xs hp => ?_, fun xs hp => by rw [fillrow]; have := hp.get; simp only [gr, this]; exact xjt.refl _⟩
    rw [fillrow]
    refine ⟨by simp, fun E1 E2 w k1 k2 own he hk hb => ?_, trivial⟩
    have := hp.get
    simp only [gr, this]
    exact ⟨hb.1, by rw [hk]; exact hb.2⟩
   ·cases h
  | _ => simp [xfT] at h
 | arr e sz els =>
  cases b with
  | arr e' sz' els' =>
   simp only [xfT] at h
   split at h
   ·rename_i hc
    obtain ⟨rfl, rfl⟩ := hc
    have r := xpy els els' m m' h
    refine ⟨r.ext, fun xs hp => ?_, fun xs hp => by simp only [xjV]; exact xjt.flat rfl⟩
    obtain ⟨a1, a2, a3, a4, a5⟩ := r.fill xs hp
    have e1 : xjV xs (.arr e sz els) m.us.length = (.arr e sz (xln xs els m.us.length).1, m'.us.length) := by simp only [xjV, a1]
    rw [e1]
    refine ⟨rfl, fun E1 E2 w k1 k2 own he hk hb => ?_, a3⟩
    obtain ⟨h1, h2, h3⟩ := hb
    refine ⟨?_, fun el hel => ?_, by rw [a5]; exact h3⟩
    ·have hlen : (xln xs els m.us.length).1.length = els'.length := by simpa using congrArg List.length a4
     rw [hk, hlen, a2 E1 E2 he]; exact h1
    ·have : el.length ∈ (xln xs els m.us.length).1.map List.length := List.mem_map.2 ⟨el, hel, rfl⟩
     rw [a4] at this
     obtain ⟨el', hel', hl⟩ := List.mem_map.1 this
     rw [← hl]; exact h2 el' hel'
   ·cases h
  | _ => simp [xfT] at h
 | nil =>
  cases b with
  | nil =>
   cases h
   exact ⟨MExt.refl _, fun xs _ => ⟨rfl, fun E1 E2 w k1 k2 own he hk hb => hk.trans hb, xoM⟩, fun xs _ => xjt.flat rfl⟩
  | _ => simp [xfT] at h
 | mp kt et q n ke l0 =>
  cases b with
  | mp kt' et' q' n' ke' l =>
   simp only [xfT] at h
   split at h
   ·rename_i hc
    obtain ⟨rfl, rfl, rfl, rfl, rfl⟩ := hc
    cases h
    refine ⟨⟨⟨[.r l], rfl⟩, fun _ _ h => h⟩, fun xs hp => ⟨by simp [xjV], fun E1 E2 w k1 k2 own he hk hb => ?_, trivial⟩, fun xs hp => xjt.flat rfl⟩
    have hg := hp.get
    obtain ⟨b, es, clock, h1, h2, h3, h4, h5⟩ := hb
    have e : (xjV xs (.mp kt et q n ke l0) m.us.length).1 = .mp kt et q n ke l := by simp only [xjV, gr, hg]
    rw [e]
    exact ⟨b, es, clock, hk.trans h1, h2, h3, h4, h5⟩
   ·cases h
  | _ => simp [xfT] at h
 | loop => cases b <;> simp [xfT] at h
 | fin st pend =>
  cases b with
  | fin st' pend' =>
   simp only [xfT] at h
   split at h
   ·rename_i hc
    rw [Bool.and_eq_true] at hc
    have e1 := Nat.eq_of_beq_eq_true hc.1
    have e2 := xxZ hc.2
    subst e1 e2
    cases h
    exact ⟨MExt.refl _, fun xs _ => ⟨rfl, fun E1 E2 w k1 k2 own he hk hb => by
     obtain ⟨l, r, h1, h2⟩ := hb
     exact ⟨l, r, hk.trans h1, h2⟩, trivial⟩, fun xs _ => xjt.flat rfl⟩
   ·cases h
  | _ => simp [xfT] at h
theorem xl5 {tmps : Nat → Option AV} : ∀ (l : List (Nat × AV)) (m m' : MS), xlf base tmps l m = some m' → MExt m m' ∧ ∀ xs, Pre m'.us xs → (xbq xs l m.us.length).2 = m'.us.length ∧
  ∀ t v, xgO t (xbq xs l m.us.length).1 = some v → ∃ v', tmps t = some v' ∧ AV.all (xuF base m'.km) v ∧ ∀ E1 E2, KEnv base E1 E2 m'.km → v.den E2 = v'.den E1
 | [], m, m', h => by cases h; exact ⟨MExt.refl _, fun xs _ => ⟨rfl, fun t v h => by cases h⟩⟩
 | (t, s) :: r, m, m', h => by
  unfold xlf at h
  split at h
  ·rename_i v0 hv0
   split at h
   ·rename_i m1 h1
    have r1 := xrm s v0 m m1 h1
    obtain ⟨r2, r3⟩ := xl5 r m1 m' h
    refine ⟨r1.ext.trans r2, fun xs hp => ?_⟩
    obtain ⟨a1, a2, a3, a4⟩ := r1.fill xs (hp.of_ext r2)
    obtain ⟨b1, b2⟩ := r3 xs hp
    have e : xbq xs ((t, s) :: r) m.us.length = ((t, (xhb xs s m.us.length).1) :: (xbq xs r m1.us.length).1, m'.us.length) := by
     simp only [xbq, a1, b1]
    rw [e]
    refine ⟨rfl, fun t' v ht => ?_⟩
    simp only [xgO] at ht
    split at ht
    ·rename_i hb
     cases ht
     rw [Nat.eq_of_beq_eq_true hb]
     exact ⟨v0, hv0, xgk (fun k hk => xlk r2 hk) _ a3, fun E1 E2 he => a2 E1 E2 (he.of_ext r2)⟩
    ·exact b2 t' v ht
   ·cases h
  ·cases h
theorem xpG {xs : List U} {ver : Nat} : ∀ (l : List Obj) (j : Nat), (xbQ ver xs l j).1.map (fun o => o.key) = l.map fun o => o.key
 | [], j => rfl
 | o :: r, j => by simp [xbQ, xpG r]
theorem xmU {objs : List Obj} {ver : Nat} : ∀ (l : List Obj) (m m' : MS), xmV P base objs l m = some m' → MExt m m' ∧ ∀ xs, Pre m'.us xs → (xbQ ver xs l m.us.length).2 = m'.us.length ∧
  ∀ o ∈ (xbQ ver xs l m.us.length).1, o.ver = ver ∧ (∃ s ∈ l, s.key = o.key) ∧ xbh (xuF base m'.km) o.body ∧ ∃ o' ∈ objs, o'.key = o.key ∧ (o.own = true → o'.own = true) ∧ xjt o'.body o.body ∧
   ∀ (E1 E2 : Env) (w : World), KEnv base E1 E2 m'.km → E2 o.key = E1 o.key → xbi E1 w o.key o'.own o'.body → xbi E2 w o.key o.own o.body
 | [], m, m', h => by cases h; exact ⟨MExt.refl _, fun xs _ => ⟨rfl, fun o ho => by cases ho⟩⟩
 | s :: r, m, m', h => by
  unfold xmV at h
  split at h
  ·rename_i o' ho'
   obtain ⟨hm, hk⟩ := xah ho'
   split at h
   ·rename_i hown
    split at h
    ·rename_i m1 h1
     have r1 := xkx h1
     obtain ⟨r2, r3⟩ := xmU (ver := ver) r m1 m' h
     refine ⟨r1.ext.trans r2, fun xs hp => ?_⟩
     obtain ⟨a1, a2, a3⟩ := r1.fill xs (hp.of_ext r2)
     obtain ⟨b1, b2⟩ := r3 xs hp
     have e : xbQ ver xs (s :: r) m.us.length = (⟨s.key, ver, s.own, (xjV xs s.body m.us.length).1⟩ :: (xbQ ver xs r m1.us.length).1, m'.us.length) := by
      simp only [xbQ, a1, b1]
     rw [e]
     refine ⟨rfl, fun o ho => ?_⟩
     rcases List.mem_cons.1 ho with rfl | ho
     ·refine ⟨rfl, ⟨s, by simp, rfl⟩, xa3 (fun k hk => xlk r2 hk) a3, o', hm, hk, ?_, r1.from_ xs (hp.of_ext r2), fun E1 E2 w he hke hb => ?_⟩
      ·intro ht
       rcases hown with h2 | h2
       ·rw [← h2]; exact ht
       ·rw [h2] at ht; cases ht
      ·have hb2 := a2 E1 E2 w s.key s.key o'.own (he.of_ext r2) hke hb
       rcases hown with h2 | h2
       ·simp only []; rw [h2]; exact hb2
       ·simp only []; rw [h2]
        generalize (xjV xs s.body m.us.length).1 = bb at hb2
        cases bb with
        | cells => exact hb2
        | row e ks l => exact ⟨hb2.reads, hb2.len, fun h => by cases h⟩
        | sub e ks l => exact ⟨rfl, hb2.2.reads, hb2.2.len, fun h => by cases h⟩
        | nst e ks l => obtain ⟨vs, hb2⟩ := hb2; exact ⟨vs, ⟨hb2.row.reads, hb2.row.len, fun h => by cases h⟩, hb2.cell⟩
        | arr e sz els => exact ⟨⟨hb2.1.reads, hb2.1.len, fun h => by cases h⟩, hb2.2⟩
        | nil => exact hb2
        | mp => exact hb2
        | fin => exact hb2
        | loop => exact hb2
     ·obtain ⟨p1, ⟨s', p2, p3⟩, p4⟩ := b2 o ho
      exact ⟨p1, ⟨s', by simp [p2], p3⟩, p4⟩
    ·cases h
   ·cases h
  ·cases h
def xtW (own : Bool) (b0 b : Body) : Prop := (xqD b = true → xqD b0 = true ∨ own = true) ∧ ∀ e ks l, b = .nst e ks l → b0 = .nst e ks l ∨ l = []
theorem xjt.o {own : Bool} {b0 b : Body} (h : xjt b0 b) : xtW own b0 b := ⟨fun hs => .inl (h.1 hs), h.2⟩
theorem RT.flat (t : RT) (l : List (List Int)) : xbG (t.body l) = true := by cases t <;> rfl
theorem RT.nil (t : RT) {E : Env} {w : World} {key : Nat} (h : E key = .slice none 0 0) : xbi E w key t.own (t.body []) := by
 cases t with
 | row e ks => exact xfP h
 | nst e ks => exact xrC.ok (x := .nil) (.inr ⟨rfl, .inr ⟨e, ks, rfl⟩⟩) h
 | sub e ks =>
  have : xbi E w key false (.row e ks []) := xfP h
  exact ⟨rfl, this⟩
theorem RT.from_nil (t : RT) : xtW true .nil (t.body []) := by
 cases t with
 | row e ks => exact (xjt.flat rfl).o
 | nst e ks => exact xjt.nst.o
 | sub e ks => exact ⟨fun _ => .inr rfl, (fun _ _ _ h => by cases h)⟩
theorem xlL {b : Body} {m m1 : MS} {e : TypeId} {ks : List CK} (h1 : xfT P 0 (.row e ks []) b m = some m1) : m1.km = m.km := by
 unfold xfT at h1
 simp only [] at h1
 split at h1
 ·cases h1; rfl
 ·split at h1
  ·split at h1
   ·cases h1; rfl
   ·cases h1
  ·cases h1
theorem xs4 {b : Body} {m m1 : MS} {e : TypeId} {ks : List NK} (h1 : xfT P 0 (.nst e ks []) b m = some m1) : m1.km = m.km := by
 unfold xfT at h1
 simp only [] at h1
 split at h1
 ·cases h1; rfl
 ·split at h1
  ·cases h1; rfl
  ·cases h1
 ·cases h1
theorem xyd {t : RT} {own : Bool} {b : Body} {m m1 : MS} {k ok : Nat} (hk' : xiT k m.km = some (some ok)) (h : xw9 P t own b m = some m1) : m1.km = m.km ∧ (∃ q, m1.us = q ++ m.us) ∧ m1.us.length = m.us.length + 1 ∧ (t.own = true → own = true) ∧
  ∀ xs, Pre m1.us xs → xtW own b (t.body (gr xs m.us.length)) ∧ ∀ (E1 E2 : Env) (w : World), E2 k = E1 ok → xbi E1 w ok own b → xbi E2 w k t.own (t.body (gr xs m.us.length)) := by
 have base : ∀ {s : Body} {q : List (List Int) → Body}, m1.km = m.km → xDX P 0 s b m m1 → (∀ xs j, xjV xs s j = (q (gr xs j), j + 1)) → (∀ l, xbG (q l) = true) → (∃ xs, Pre m1.us xs) →
   (∃ q, m1.us = q ++ m.us) ∧ m1.us.length = m.us.length + 1 ∧ ∀ xs, Pre m1.us xs → xjt b (q (gr xs m.us.length)) ∧ ∀ (E1 E2 : Env) (w : World), E2 k = E1 ok → xbi E1 w ok own b → xbi E2 w k own (q (gr xs m.us.length)) := by
  intro s q hkm1 r1 hfill hflat hex
  have hl : m1.us.length = m.us.length + 1 := by
   obtain ⟨xs, hp⟩ := hex
   rw [← (r1.fill xs hp).1, hfill]
  refine ⟨r1.ext.us, hl, fun xs hp => ?_⟩
  obtain ⟨a1, a2, a3⟩ := r1.fill xs hp
  refine ⟨by have := r1.from_ xs hp; rw [hfill] at this; exact this, fun E1 E2 w he hb => ?_⟩
  have hkenv : KEnv 0 E1 (fun x => xfp E1 ((xiT x m1.km).getD none)) m1.km := ⟨fun k hk => by omega, fun k u hu => by simp [hu]⟩
  have e2 : (fun x => xfp E1 ((xiT x m1.km).getD none)) k = E1 ok := by
   show xfp E1 ((xiT k m1.km).getD none) = E1 ok
   rw [hkm1, hk']; rfl
  have hb2 := a2 E1 _ w ok k own hkenv e2 hb
  rw [hfill] at hb2
  exact xoL (hflat _) (he.trans e2.symm) hb2
 have hex : ∃ xs, Pre m1.us xs := ⟨m1.us.reverse, [], by simp⟩
 cases t with
 | row e ks =>
  unfold xw9 at h
  simp only [] at h
  split at h
  ·obtain ⟨p1, p2, p3⟩ := base (q := fun l => .row e ks l) (xlL h) (xkx h) (fun _ _ => rfl) (fun _ => rfl) hex
   exact ⟨xlL h, p1, p2, fun _ => rfl, fun xs hp => ⟨(p3 xs hp).1.o, (p3 xs hp).2⟩⟩
  ·cases h
 | nst e ks =>
  unfold xw9 at h
  simp only [] at h
  split at h
  ·obtain ⟨p1, p2, p3⟩ := base (q := fun l => .nst e ks l) (xs4 h) (xkx h) (fun _ _ => rfl) (fun _ => rfl) hex
   exact ⟨xs4 h, p1, p2, fun _ => rfl, fun xs hp => ⟨(p3 xs hp).1.o, (p3 xs hp).2⟩⟩
  ·cases h
 | sub e ks =>
  unfold xw9 at h
  simp only [] at h
  split at h
  ·rename_i hc
   obtain ⟨p1, p2, p3⟩ := base (q := fun l => .row e ks l) (xlL h) (xkx h) (fun _ _ => rfl) (fun _ => rfl) hex
   refine ⟨xlL h, p1, p2, (fun h => by cases h), fun xs hp => ⟨⟨fun _ => ?_, (fun _ _ _ h => by cases h)⟩, fun E1 E2 w he hb => ?_⟩⟩
   ·rcases Bool.or_eq_true_iff.1 hc with h | h
    ·exact .inr h
    ·exact .inl h
   ·have := (p3 xs hp).2 E1 E2 w he hb
    have hr : xbc w own e ks.length (E2 k) (gr xs m.us.length).length (rowV ks (gr xs m.us.length)) := this
    exact ⟨rfl, hr.reads, hr.len, (fun h => by cases h)⟩
  ·cases h
theorem xjT {objs : List Obj} {ver : Nat} {km : List (Nat × Option Nat)} : ∀ (l : List RT) (k : Nat) (m m' : MS), m.km = km → xmT P objs k l m = some m' → m'.km = km ∧ (∃ r, m'.us = r ++ m.us) ∧ ∀ xs, Pre m'.us xs →
  ∀ o ∈ xeC ver xs k l m.us.length, o.ver = ver ∧ k ≤ o.key ∧ o.key < k + l.length ∧ xbG o.body = true ∧
   ((∃ o' ∈ objs, xiT o.key km = some (some o'.key) ∧ (o.own = true → o'.own = true) ∧ xtW o'.own o'.body o.body ∧ ∀ (E1 E2 : Env) (w : World), E2 o.key = E1 o'.key → xbi E1 w o'.key o'.own o'.body → xbi E2 w o.key o.own o.body) ∨
    ((∀ k', xiT o.key km ≠ some (some k')) ∧ xtW true .nil o.body ∧ ∀ (E2 : Env) (w : World), E2 o.key = .slice none 0 0 → xbi E2 w o.key o.own o.body))
 | [], k, m, m', hkm, h => by cases h; exact ⟨hkm, ⟨[], rfl⟩, fun xs _ o ho => by cases ho⟩
 | t :: r, k, m, m', hkm, h => by
  unfold xmT at h
  split at h
  ·rename_i k' hk'
   split at h
   ·rename_i ok ov own b ho'
    split at h
    ·rename_i m1 h1
     obtain ⟨hm, hkk⟩ := xah ho'
     have hkk : ok = k' := hkk
     subst hkk
     obtain ⟨t1, ⟨q, hq⟩, hl, t4, t5⟩ := xyd hk' h1
     have hkm1 : m1.km = km := by rw [t1, hkm]
     obtain ⟨r2, ⟨r3, hr3⟩, r4⟩ := xjT (ver := ver) r (k + 1) m1 m' hkm1 h
     refine ⟨r2, ⟨r3 ++ q, by rw [hr3, hq, List.append_assoc]⟩, fun xs hp o ho => ?_⟩
     have hp1 : Pre m1.us xs := by
      obtain ⟨t, ht⟩ := hp
      exact ⟨r3.reverse ++ t, by rw [ht, hr3]; simp⟩
     obtain ⟨a1, a2⟩ := t5 xs hp1
     simp only [xeC] at ho
     rcases List.mem_cons.1 ho with rfl | ho
     ·exact ⟨rfl, Nat.le_refl _, by simp, RT.flat t _, .inl ⟨_, hm, by rw [← hkm]; exact hk', t4, a1, fun E1 E2 w he hb => a2 E1 E2 w he hb⟩⟩
     ·obtain ⟨p1, p3, p4, p5, p6⟩ := r4 xs hp o (by rw [hl]; exact ho)
      exact ⟨p1, by omega, by simp; omega, p5, p6⟩
    ·cases h
   ·cases h
  ·rename_i hne
   obtain ⟨r2, ⟨r3, hr3⟩, r4⟩ := xjT (ver := ver) r (k + 1) _ m' (by exact hkm) h
   refine ⟨r2, ⟨r3 ++ [.r []], by rw [hr3]; simp⟩, fun xs hp o ho => ?_⟩
   have hp1 : Pre (U.r [] :: m.us) xs := by
    obtain ⟨t, ht⟩ := hp
    exact ⟨r3.reverse ++ t, by rw [ht, hr3]; simp⟩
   simp only [xeC] at ho
   rcases List.mem_cons.1 ho with rfl | ho
   ·have := hp1.get
    refine ⟨rfl, Nat.le_refl _, by simp, RT.flat t _, .inr ⟨fun k' hk' => hne k' (by rw [hkm]; exact hk'), by simp only [gr, this]; exact RT.from_nil t, fun E2 w he => ?_⟩⟩
    simp only [gr, this]
    exact RT.nil t he
   ·obtain ⟨p1, p3, p4, p5, p6⟩ := r4 xs hp o (by simpa using ho)
    exact ⟨p1, by omega, by simp; omega, p5, p6⟩
end
end Go.Sy
