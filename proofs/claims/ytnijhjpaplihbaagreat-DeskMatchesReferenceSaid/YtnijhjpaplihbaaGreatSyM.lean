/-
 The executor is sound: calls by contract.
-/
import Derived.Test.YtnijhjpaplihbaaGreatSyL
set_option linter.unusedVariables false
namespace Go.Sy
open Go.RowKit
section
variable {P : Program} {Γ : Con} {X : List (Nat × Go.Obj)} {E : Env} {w0 w : World} {objs : List Obj} {n K : Nat}
structure xxP (E : Env) (w : World) (objs : List Obj) : Prop where
 env : ∀ k, (E k).oneCell' = true
 rows : ∀ o ∈ objs, xbi E w o.key false o.body ∧ xbG o.body = true ∧ o.key < objs.length
 uniq : ∀ o ∈ objs, ∀ o' ∈ objs, o.key = o'.key → o = o'
def xBU (P : Program) (f : FuncId) (args : List AV) (objs : List Obj) (x : Eff) : Prop :=
 xe5 P f ∧ xke objs.length x ∧ (x.holds → ∀ (E : Env) (w : World), xxP E w objs → Calls P f (AV.denL E args).toArray w fun e w' => ∃ E', e = .returned (x.v.den E') ∧ xxO E w objs.length x E' w')
structure xEy (P : Program) (f : FuncId) (args : List AV) (objs : List Obj) (x : Eff) (rest : List AV) (e : TypeId) (ks : List CK) (l l' : List (List Int)) : Prop where
 isArgs : args = .sl 0 :: rest
 isObjs : objs = [⟨0, 0, true, .row e ks l⟩]
 add : x.add = [⟨0, 0, true, .row e ks l'⟩]
 keys : ∀ k ∈ AV.keys x.v, k = 0
 fn : xe5 P f
 run : x.holds → ∀ (E : Env) (w : World), (∀ k, (E k).oneCell' = true) → xbc w true e ks.length (E 0) l.length (rowV ks l) →
  Calls P f (AV.denL E args).toArray w fun ex w' => ex = .returned (x.v.den E) ∧ xbc w' true e ks.length (E 0) l'.length (rowV ks l') ∧ Chg w w' (blkO (E 0)).toList
def xaI (P : Program) (Γ : Con) : Prop := ∀ (f : FuncId) (args : List AV) (objs : List Obj) (x : Eff), Γ f args objs = some x →
 (x.rm = [] → xBU P f args objs x) ∧ (x.rm ≠ [] → ∃ rest e ks l l', xEy P f args objs x rest e ks l l')
def xCG (P : Program) (objs : List Obj) (K : Nat) (x : xfu) : Prop :=
 (∃ o ∈ objs, x.key = some o.key ∧ o.key < K ∧ (x.body = o.body ∨ (o.body = .nil ∧ ∃ t, x.body = xiu P t))) ∨ (x.key = none ∧ ∃ t, x.body = xiu P t)
structure xhG (P : Program) (objs : List Obj) (K : Nat) (acc acc' : List xfu) : Prop where
 ext : ∃ r, acc' = acc ++ r
 ok : (∀ x ∈ acc, xCG P objs K x) → ∀ x ∈ acc', xCG P objs K x
theorem xhG.refl (acc : List xfu) : xhG P objs K acc acc := ⟨⟨[], by simp⟩, fun h => h⟩
theorem xhG.trans {a b c : List xfu} (h : xhG P objs K a b) (k : xhG P objs K b c) : xhG P objs K a c := by
 obtain ⟨r, rfl⟩ := h.ext
 obtain ⟨s, rfl⟩ := k.ext
 exact ⟨⟨r ++ s, by simp⟩, fun hn => k.ok (h.ok hn)⟩
theorem xhG.le {a b : List xfu} (h : xhG P objs K a b) : a.length ≤ b.length := by obtain ⟨r, rfl⟩ := h.ext; simp
theorem xhG.get {a b : List xfu} (h : xhG P objs K a b) {i : Nat} {o : xfu} (hi : a[i]? = some o) : b[i]? = some o := by
 obtain ⟨r, rfl⟩ := h.ext
 rw [List.getElem?_append_left (List.getElem?_eq_some_iff.1 hi).1]; exact hi
theorem xtD {acc : List xfu} {x : xfu} (h : xCG P objs K x) : xhG P objs K acc (acc ++ [x]) :=
 ⟨⟨[x], rfl⟩, fun hn y hy => by
  rcases List.mem_append.1 hy with hy | hy
  ·exact hn y hy
  ·simp at hy; subst hy; exact h⟩
theorem xkP {k : Nat} : ∀ {l : List xfu} {i j : Nat}, xm3 k l i = some j → ∃ m x, j = i + m ∧ l[m]? = some x ∧ x.key = some k
 | [], i, j, h => by cases h
 | x :: r, i, j, h => by
  unfold xm3 at h
  split at h
  ·rename_i k' hk'
   split at h
   ·rename_i hb
    cases h
    exact ⟨0, x, rfl, rfl, by rw [hk', Nat.eq_of_beq_eq_true hb]⟩
   ·obtain ⟨m, y, h1, h2, h3⟩ := xkP h
    exact ⟨m + 1, y, by omega, by simpa using h2, h3⟩
  ·obtain ⟨m, y, h1, h2, h3⟩ := xkP h
   exact ⟨m + 1, y, by omega, by simpa using h2, h3⟩
def xzB (E Ec : Env) (acc : List xfu) : Prop := ∀ i x, acc[i]? = some x → Ec i = xfp E x.key
theorem xu8 {t : Option TypeId} {k i : Nat} {acc acc' : List xfu} (hk : k < K) (h : canK P objs t k acc = some (i, acc')) : xhG P objs K acc acc' ∧ i < acc'.length ∧ ∀ E Ec : Env, xzB E Ec acc' → Ec i = E k := by
 unfold canK at h
 split at h
 ·rename_i j hj
  cases h
  obtain ⟨m, x, h1, h2, h3⟩ := xkP hj
  have : i = m := by omega
  subst this
  exact ⟨xhG.refl _, (List.getElem?_eq_some_iff.1 h2).1, fun E Ec he => by rw [he i x h2, h3]; rfl⟩
 ·split at h
  ·rename_i o ho
   cases h
   obtain ⟨hm, hkk⟩ := xah ho
   refine ⟨xtD (.inl ⟨o, hm, by rw [hkk], by rw [hkk]; exact hk, ?_⟩), by simp, fun E Ec he => he acc.length ⟨some k, o.own, match o.body with | .nil => xiu P t | b => b⟩ (by rw [List.getElem?_append_right (Nat.le_refl _), Nat.sub_self]; rfl)⟩
   generalize o.body = b
   cases b with
   | nil => exact .inr ⟨rfl, t, rfl⟩
   | _ => exact .inl rfl
  ·cases h
mutual
theorem xAe : ∀ (v : AV) (t : Option TypeId) (acc : List xfu) (v' : AV) (acc' : List xfu), AV.lt K v → canV P objs t v acc = some (v', acc') →
  xhG P objs K acc acc' ∧ AV.lt acc'.length v' ∧ ∀ E Ec : Env, xzB E Ec acc' → v'.den Ec = v.den E
 | .sl k, t, acc, v', acc', hk, h => by
  unfold canV at h
  split at h
  ·rename_i i acc1 hc
   cases h
   obtain ⟨a, b, c⟩ := xu8 hk hc
   exact ⟨a, b, fun E Ec he => c E Ec he⟩
  ·cases h
 | .ptr k off, t, acc, v', acc', hk, h => by
  unfold canV at h
  split at h
  ·rename_i i acc1 hc
   cases h
   obtain ⟨a, b, c⟩ := xu8 hk hc
   exact ⟨a, b, fun E Ec he => by simp [AV.den, c E Ec he]⟩
  ·cases h
 | .fn f first caps, t, acc, v', acc', hk, h => by
  unfold canV at h
  split at h
  ·rename_i first' acc1 h1
   split at h
   ·rename_i caps' acc2 h2
    cases h
    obtain ⟨a, b, c⟩ := xjF first [] acc first' acc1 hk.1 h1
    obtain ⟨a', b', c'⟩ := xjF caps [] acc1 caps' acc' hk.2 h2
    have := a'.le
    refine ⟨a.trans a', ⟨xzb a'.le _ b, b'⟩, fun E Ec he => ?_⟩
    simp only [AV.den, c E Ec (fun i x hi => he i x (a'.get hi)), c' E Ec he]
   ·cases h
  ·cases h
 | .agg cs, t, acc, v', acc', hk, h => by
  unfold canV at h
  split at h
  ·rename_i cs' acc1 h1
   cases h
   obtain ⟨a, b, c⟩ := xjF cs _ acc cs' acc' hk h1
   exact ⟨a, b, fun E Ec he => by simp only [AV.den, c E Ec he]⟩
  ·cases h
 | .tup cs, t, acc, v', acc', hk, h => by
  unfold canV at h
  split at h
  ·rename_i cs' acc1 h1
   cases h
   obtain ⟨a, b, c⟩ := xjF cs _ acc cs' acc' hk h1
   exact ⟨a, b, fun E Ec he => by simp only [AV.den, c E Ec he]⟩
  ·cases h
 | .yl _, t, acc, v', acc', hk, h => by cases h
 | .ix _ _ _ _ _, t, acc, v', acc', hk, h => by cases h
 | .vw _ _ _ _, t, acc, v', acc', hk, h => by cases h
 | .bool b, t, acc, v', acc', hk, h => by simp only [canV] at h; cases h; exact ⟨xhG.refl _, trivial, fun _ _ _ => rfl⟩
 | .int k b, t, acc, v', acc', hk, h => by simp only [canV] at h; cases h; exact ⟨xhG.refl _, trivial, fun _ _ _ => rfl⟩
 | .val v, t, acc, v', acc', hk, h => by
  by_cases hv : v = .slice none 0 0
  ·subst hv
   simp only [canV] at h
   split at h
   ·cases h
    exact ⟨xtD (.inr ⟨rfl, _, rfl⟩), (show acc.length < (acc ++ [_]).length by simp), fun E Ec he => he acc.length ⟨none, true, xiu P t⟩ (by rw [List.getElem?_append_right (Nat.le_refl _), Nat.sub_self]; rfl)⟩
   ·cases h; exact ⟨xhG.refl _, trivial, fun _ _ _ => rfl⟩
  ·have e : canV P objs t (.val v) acc = some (.val v, acc) := by
    unfold canV
    split <;> first | rfl | (rename_i heq; cases heq; exact absurd rfl hv) | (rename_i heq; cases heq)
   rw [e] at h
   cases h
   exact ⟨xhG.refl _, trivial, fun _ _ _ => rfl⟩
theorem xjF : ∀ (l : List AV) (ts : List TypeId) (acc : List xfu) (l' : List AV) (acc' : List xfu), AV.ltL K l → canL P objs ts l acc = some (l', acc') →
  xhG P objs K acc acc' ∧ AV.ltL acc'.length l' ∧ ∀ E Ec : Env, xzB E Ec acc' → AV.denL Ec l' = AV.denL E l
 | [], ts, acc, l', acc', _, h => by cases h; exact ⟨xhG.refl _, trivial, fun _ _ _ => rfl⟩
 | a :: r, ts, acc, l', acc', hk, h => by
  unfold canL at h
  split at h
  ·rename_i a' acc1 h1
   split at h
   ·rename_i r' acc2 h2
    cases h
    obtain ⟨x1, x2, x3⟩ := xAe a _ acc a' acc1 hk.1 h1
    obtain ⟨y1, y2, y3⟩ := xjF r _ acc1 r' acc' hk.2 h2
    refine ⟨x1.trans y1, ⟨xg9 y1.le _ x2, y2⟩, fun E Ec he => ?_⟩
    rw [AV.denL, AV.denL, x3 E Ec (fun i x hi => he i x (y1.get hi)), y3 E Ec he]
   ·cases h
  ·cases h
end
theorem xrk (t : Option TypeId) : xbG (xiu P t) = true := by
 unfold xiu
 split
 ·split <;> rfl
 ·rfl
theorem xuP (t : Option TypeId) {Ec : Env} {w : World} {key : Nat} {own : Bool} (h : Ec key = .slice none 0 0) : xbi Ec w key own (xiu P t) := by
 unfold xiu
 split
 ·split
  ·exact xfP h
  ·exact h
 ·exact h
theorem xyJ {E1 E2 : Env} {w : World} {k1 k2 : Nat} {own : Bool} {b : Body} (hf : xbG b = true) (hk : E2 k2 = E1 k1) (h : xbi E1 w k1 own b) : xbi E2 w k2 false b := by
 cases b with
 | row e ks l =>
  have h : xbc w own e ks.length (E1 k1) l.length (rowV ks l) := h
  show xbc w false e ks.length (E2 k2) l.length (rowV ks l); rw [hk]; exact ⟨h.reads, h.len, fun h => by cases h⟩
 | nil => exact hk.trans h
 | nst e ks l => obtain ⟨vs, h⟩ := h; exact ⟨vs, by rw [hk]; exact ⟨⟨h.row.reads, h.row.len, fun h => by cases h⟩, h.cell⟩⟩
 | sub e ks l => exact ⟨rfl, by rw [hk]; exact ⟨h.2.reads, h.2.len, fun h => by cases h⟩⟩
 | cells => cases hf
 | arr => cases hf
 | mp => cases hf
 | fin => cases hf
 | loop => cases hf
structure xuE (P : Program) (E : Env) (w : World) (objs : List Obj) : Prop where
 nil : ∀ o ∈ objs, o.body = .nil → E o.key = .slice none 0 0
 row : ∀ o ∈ objs, ∀ e ks l, xe6 P o.body = some (e, ks, l) → xbc w o.own e ks.length (E o.key) l.length (rowV ks l)
 nst : ∀ o ∈ objs, ∀ e ks l, o.body = .nst e ks l → ∃ vs, xjr w o.own e ks (E o.key) l vs
 sub : ∀ o ∈ objs, xqD o.body = true → o.own = false
theorem xag.objsR (hH : xag X E w0 ⟨objs, n⟩ w) : xuE P E w objs :=
 ⟨fun o ho hb => by have := hH.objs o ho; rw [hb] at this; exact this, fun o ho e ks l hr => xbT hr (hH.objs o ho), fun o ho e ks l hb => by have := hH.objs o ho; rw [hb] at this; exact this, fun o ho hs => by
  have := hH.objs o ho
  obtain ⟨k, v, own, b⟩ := o
  cases b <;> first | exact this.1 | cases hs⟩
theorem xuE.flat (hH : xuE P E w objs) {o : Obj} (ho : o ∈ objs) (hf : xbG o.body = true) : xbi E w o.key o.own o.body := by
 cases hb : o.body with
 | row e ks l => exact hH.row o ho e ks l (by rw [hb]; rfl)
 | nil => exact hH.nil o ho hb
 | nst e ks l => exact hH.nst o ho e ks l hb
 | sub e ks l => exact ⟨hH.sub o ho (by rw [hb]; rfl), hH.row o ho e ks l (by rw [hb]; rfl)⟩
 | cells => rw [hb] at hf; cases hf
 | arr => rw [hb] at hf; cases hf
 | mp => rw [hb] at hf; cases hf
 | fin => rw [hb] at hf; cases hf
 | loop => rw [hb] at hf; cases hf
theorem xp3 : ∀ {es0 es : List xfu}, xi9 P es0 = some es → (∀ x ∈ es0, xCG P objs K x) → es.map (·.key) = es0.map (·.key) ∧ ∀ x ∈ es, xbG x.body = true ∧ (∀ k, x.key = some k → k < K) ∧ ∀ (E : Env) (w : World), xuE P E w objs → ∀ (Ec : Env) (i : Nat), Ec i = xfp E x.key → xbi Ec w i false x.body
 | [], es, h, _ => by cases h; simp
 | x :: r, es, h, hok => by
  have hx := hok x (by simp)
  have key : ∀ b : Body, ((xi9 P r).map ({ x with body := b } :: ·)) = some es → (xbG b = true ∧ ∀ (E : Env) (w : World), xuE P E w objs → ∀ (Ec : Env) (i : Nat), Ec i = xfp E x.key → xbi Ec w i false b) →
    es.map (·.key) = (x :: r).map (·.key) ∧ ∀ x ∈ es, xbG x.body = true ∧ (∀ k, x.key = some k → k < K) ∧ ∀ (E : Env) (w : World), xuE P E w objs → ∀ (Ec : Env) (i : Nat), Ec i = xfp E x.key → xbi Ec w i false x.body := by
   intro b h hb
   cases hr : xi9 P r with
   | none => rw [hr] at h; cases h
   | some es' =>
    rw [hr] at h
    cases h
    obtain ⟨i1, i2⟩ := xp3 hr (fun x hx => hok x (by simp [hx]))
    refine ⟨by simp [i1], fun y hy => ?_⟩
    rcases List.mem_cons.1 hy with rfl | hy
    ·refine ⟨hb.1, fun k hk => ?_, hb.2⟩
     rcases hx with ⟨o, ho, h1, h2, h3⟩ | ⟨h1, _⟩
     ·rw [h1] at hk; cases hk; exact h2
     ·rw [h1] at hk; cases hk
    ·exact i2 y hy
  have same : xbG x.body = true → xbG x.body = true ∧ ∀ (E : Env) (w : World), xuE P E w objs → ∀ (Ec : Env) (i : Nat), Ec i = xfp E x.key → xbi Ec w i false x.body := by
   intro hf
   refine ⟨hf, fun E w hH Ec i he => ?_⟩
   rcases hx with ⟨o, ho, h1, h2, h3⟩ | ⟨h1, t, h3⟩
   ·rw [h1] at he
    rcases h3 with h3 | ⟨h3, t, h4⟩
    ·rw [h3] at hf ⊢; exact xyJ hf he (hH.flat ho hf)
    ·have hb : E o.key = .slice none 0 0 := hH.nil o ho h3
     rw [h4]; exact xuP t (he.trans hb)
   ·rw [h1] at he
    rw [h3]; exact xuP t he
  unfold xi9 at h
  obtain ⟨xk, xo, xb⟩ := x
  cases xb with
  | row e ks l => exact key _ h (same rfl)
  | nil => exact key _ h (same rfl)
  | nst e ks l => exact key _ h (same rfl)
  | sub e ks l =>
   refine key _ h ⟨rfl, fun E w hH Ec i he => ?_⟩
   rcases hx with ⟨o, ho, h1, h2, h3⟩ | ⟨h1, t, h3⟩
   ·simp only [] at h1 he
    rw [h1] at he
    rcases h3 with h3 | ⟨h3, t, h4⟩
    ·simp only [] at h3
     have := hH.row o ho e ks l (by rw [← h3]; rfl)
     show xbc w false e ks.length (Ec i) l.length (rowV ks l)
     rw [he]
     exact ⟨this.reads, this.len, fun h => by cases h⟩
    ·unfold xiu at h4
     split at h4
     ·split at h4 <;> cases h4
     ·cases h4
   ·unfold xiu at h3
    split at h3
    ·split at h3 <;> cases h3
    ·cases h3
  | arr e sz els =>
   simp only [] at h
   split at h
   ·rename_i e' ks l hr
    refine key _ h ⟨rfl, fun E w hH Ec i he => ?_⟩
    rcases hx with ⟨o, ho, h1, h2, h3⟩ | ⟨h1, t, h3⟩
    ·simp only [] at h1 he
     rw [h1] at he
     rcases h3 with h3 | ⟨h3, t, h4⟩
     ·simp only [] at h3
      have := hH.row o ho _ _ _ (by rw [← h3]; exact hr)
      show xbc w false e' ks.length (Ec i) l.length (rowV ks l)
      rw [he]
      exact ⟨this.reads, this.len, fun h => by cases h⟩
     ·have := xrk (P := P) t
      rw [← h4] at this
      cases this
    ·have := xrk (P := P) t
     rw [← h3] at this
     cases this
   ·cases h
  | cells => cases h
  | mp => cases h
  | fin => cases h
  | loop => cases h
theorem xrw : ∀ {es : List xfu} {i : Nat} {objs' : List Obj}, xtC i es = some objs' → objs' = es.zipIdx.map fun y => (⟨i + y.2, 0, y.1.own, y.1.body⟩ : Obj)
 | [], i, objs', h => by cases h; rfl
 | x :: r, i, objs', h => by
  unfold xtC at h
  split at h
  ·cases h
  ·cases hr : xtC (i + 1) r with
   | none => rw [hr] at h; cases h
   | some o' =>
    rw [hr] at h
    cases h
    rw [xrw hr, List.zipIdx_cons, List.map_cons, Nat.zero_add, List.zipIdx_succ, List.map_map]
    congr 1
    apply List.map_congr_left
    intro y _
    simp only [Function.comp]
    congr 1
    omega
theorem xAd {es : List xfu} {i k : Nat} {x : xfu} (h : es[i]? = some x) (hk : x.key = some k) : xma K es i = k := by
 unfold xma
 rw [h]
 obtain ⟨a, b, c⟩ := x
 simp only [] at hk
 subst hk
 rfl
theorem xu6 {es : List xfu} {i : Nat} (h : es.length ≤ i) : xma K es i = K + (i - es.length) := by
 unfold xma
 rw [List.getElem?_eq_none h]
theorem xBK {es : List xfu} {x y : Eff} (h : xzq K es x = some y) : x.rm = [] := by
 unfold xzq at h
 split at h
 ·rename_i hc
  rw [Bool.and_eq_true, Bool.and_eq_true] at hc
  simpa using hc.1.1
 ·cases h
theorem xyD (hΓ : xaI P Γ) (hH : xag X E w0 ⟨objs, n⟩ w) {f : FuncId} {args : List AV} {y : Eff} (h : xDL P Γ f args objs K = some y) :
  xe5 P f ∧ xe7 n objs K y ∧ (y.holds → Calls P f (AV.denL E args).toArray w fun ex w' => ex = .returned (y.v.den E) ∧ xhI E objs w K y E w') := by
 unfold xDL at h
 split at h
 case h_2 => cases h
 rename_i key rest
 split at h
 case h_2 => cases h
 rename_i hkeys
 split at h
 case h_2 => cases h
 rename_i k0 ver b hf
 split at h
 case h_2 => cases h
 rename_i e ks l hr
 split at h
 case h_2 => cases h
 rename_i x hx
 split at h
 case h_2 => cases h
 rename_i r1 a1 a2 a3 e' ks' l' hrm hadd
 cases h
 obtain ⟨hm, hk⟩ := xah hf
 have hk : k0 = key := hk
 subst hk
 obtain ⟨rest', e2, ks2, l2, l2', rc⟩ := (hΓ f _ _ x hx).2 (by rw [hrm]; simp)
 have ho := rc.isObjs
 cases ho
 have ha := rc.add
 rw [hadd] at ha
 cases ha
 have hargs := rc.isArgs
 cases hargs
 have hrow : xbc w true e ks.length (E k0) l.length (rowV ks l) := xbT hr (hH.objs _ hm)
 have hv0 : AV.all (fun k => k = 0) x.v := (xhp x.v).2 rc.keys
 have hv : ∀ p : Nat → Prop, p k0 → AV.all p (x.v.ren fun _ => k0) := fun p hp => xyO (fun _ _ => hp) x.v hv0
 refine ⟨rc.fn, xm6 ⟨_, hm, rfl, rfl⟩ xb0 (hv _ (hH.lt _ hm).1), fun hp => ?_⟩
 let E0 : Env := fun k => if k = 0 then E k0 else E k
 have h0 : E0 0 = E k0 := if_pos rfl
 have hrun := rc.run hp E0 w (fun k => by show (if k = 0 then E k0 else E k).oneCell' = true; split <;> exact hH.env _) (by rw [h0]; exact hrow)
 have hrest : AV.denL E0 (AV.weakL rest) = AV.denL E rest := by
  rw [xnc]
  exact xcC (p := fun _ => False) (fun k hk => hk.elim) _ ((xeg _).2 (by rw [hkeys]; simp))
 have hden : AV.denL E0 (.sl 0 :: AV.weakL rest) = AV.denL E (.sl k0 :: rest) := by
  simp only [AV.denL, AV.den, h0, hrest]
 rw [hden] at hrun
 refine hrun.mono fun ex w' ⟨q1, q2, q3⟩ => ⟨by rw [q1]; congr 1; exact (xyy (E := E0) (E' := E) (fun k hk => by subst hk; exact h0.symm) x.v hv0).symm, xlp hH.env ?_ ?_⟩
 ·rw [h0] at q2; exact q2
 ·rw [h0] at q3
  cases hb : blkO (E k0) with
  | none => rw [hb] at q3; exact ⟨0, .inr q3⟩
  | some g => rw [hb] at q3; exact ⟨g, .inl ⟨rfl, by simpa using q3⟩⟩
theorem xtE (hΓ : xaI P Γ) {f : FuncId} {args : List AV} {ft : List Nat} {y : Eff} (hargs : AV.ltL K args) (h : xxH P Γ f args objs K = some (ft, y)) :
  xe5 P f ∧ xke K y ∧ (y.holds → ∀ (E : Env) (w : World), (∀ k, (E k).oneCell' = true) → xuE P E w objs → Calls P f (AV.denL E args).toArray w fun e w' => ∃ E', e = .returned (y.v.den E') ∧ xxO E w K y E' w') := by
 unfold xxH at h
 split at h
 case h_2 => cases h
 rename_i args' es0 hcan
 split at h
 case h_2 => cases h
 rename_i es hrows
 split at h
 case h_2 => cases h
 rename_i objs' hobjs
 split at h
 case h_2 => cases h
 rename_i x hx
 split at h
 case h_2 => cases h
 rename_i y' hy
 cases h
 obtain ⟨hfun, hwf, hcon⟩ := (hΓ f _ objs' x hx).1 (xBK hy)
 obtain ⟨c1, c2, c3⟩ := xjF args _ [] args' es0 hargs hcan
 obtain ⟨r1, r2⟩ := xp3 (objs := objs) (K := K) hrows (c1.ok (by simp))
 have hspec := xrw hobjs
 have hlen : objs'.length = es.length := by rw [hspec]; simp
 have hes : es.length = es0.length := by simpa using congrArg List.length r1
 unfold xzq at hy
 split at hy
 case isFalse => cases hy
 rename_i hc
 cases hy
 rw [Bool.and_eq_true, Bool.and_eq_true] at hc
 obtain ⟨⟨_, hc2⟩, hc3⟩ := hc
 have hvk : ∀ i ∈ AV.keys x.v, i < es.length + x.nk ∧ ∀ e, es[i]? = some e → ∃ k, e.key = some k := by
  intro i hi
  refine ⟨by have := (xhp x.v).1 hwf.val i hi; rw [hlen] at this; exact this, fun e he => ?_⟩
  have := List.all_eq_true.1 hc3 i hi
  rw [he] at this
  obtain ⟨a, b, c⟩ := e
  cases a with
  | none => cases this
  | some k => exact ⟨k, rfl⟩
 have hok : ∀ i ∈ AV.keys x.v, (i < es.length ∧ ∃ e k, es[i]? = some e ∧ e.key = some k ∧ k < K ∧ xma K es i = k) ∨ (es.length ≤ i ∧ i < es.length + x.nk ∧ xma K es i = K + (i - es.length)) := by
  intro i hi
  obtain ⟨h1, h2⟩ := hvk i hi
  by_cases hl : i < es.length
  ·have he : es[i]? = some es[i] := List.getElem?_eq_getElem hl
   obtain ⟨k, hk⟩ := h2 _ he
   exact .inl ⟨hl, _, k, he, hk, (r2 _ (List.getElem_mem hl)).2.1 k hk, xAd he hk⟩
  ·exact .inr ⟨by omega, h1, xu6 (by omega)⟩
 have hadd : ∀ o ∈ x.add, es.length ≤ o.key ∧ o.key < es.length + x.nk ∧ xma K es o.key = K + (o.key - es.length) := by
  intro o ho
  obtain ⟨h1, h2⟩ := hwf.key o ho
  rw [hlen] at h1 h2
  exact ⟨h1, h2, xu6 h1⟩
 have mem : ∀ o ∈ x.add.map (fun o => (⟨xma K es o.key, K, o.own, o.body⟩ : Obj)), ∃ o' ∈ x.add, o = ⟨K + (o'.key - es.length), K, o'.own, o'.body⟩ := by
  intro o ho
  obtain ⟨o', ho', rfl⟩ := List.mem_map.1 ho
  exact ⟨o', ho', by rw [(hadd o' ho').2.2]⟩
 refine ⟨hfun, ⟨rfl, ?_, ?_, ?_, ?_, ?_⟩, fun hp E w henv hH => ?_⟩
 ·intro o ho
  obtain ⟨o', ho', rfl⟩ := mem o ho
  have := hadd o' ho'
  simp only []
  omega
 ·rw [List.map_map]
  have : (x.add.map ((fun o : Obj => o.key) ∘ fun o => (⟨xma K es o.key, K, o.own, o.body⟩ : Obj))) = (x.add.map fun o => o.key).map fun k => K + (k - es.length) := by
   rw [List.map_map]
   apply List.map_congr_left
   intro o ho
   exact (hadd o ho).2.2
  rw [this]
  refine List.pairwise_map.2 (List.Pairwise.imp_of_mem (fun {a b} ha hb hab => ?_) hwf.uniq)
  obtain ⟨oa, hoa, rfl⟩ := List.mem_map.1 ha
  obtain ⟨ob, hob, rfl⟩ := List.mem_map.1 hb
  have := hadd oa hoa
  have := hadd ob hob
  omega
 ·intro o ho
  obtain ⟨o', ho', rfl⟩ := mem o ho
  exact hwf.flat o' ho'
 ·refine xyO (p := fun k => k ∈ AV.keys x.v) (fun k hk => ?_) x.v ((xhp _).2 fun k hk => hk)
  rcases hok k hk with ⟨_, e, k', _, _, h1, h2⟩ | ⟨h1, h2, h3⟩
  ·rw [h2]; show k' < K + x.nk; omega
  ·rw [h3]; show K + (k - es.length) < K + x.nk; omega
 ·intro o ho
  obtain ⟨o', ho', rfl⟩ := mem o ho
  exact Nat.le_refl _
 let Ec : Env := fun i => match es[i]? with | some e => xfp E e.key | none => .nilFunc
 have hEc : ∀ (i : Nat) e, es[i]? = some e → Ec i = xfp E e.key := fun i e he => by show (match es[i]? with | some e => _ | none => _) = _; rw [he]
 have hEc0 : xzB E Ec es0 := by
  intro i e he
  have h1 : (es0.map (·.key))[i]? = some e.key := by simp [he]
  rw [← r1] at h1
  simp only [List.getElem?_map] at h1
  cases h2 : es[i]? with
  | none => rw [h2] at h1; cases h1
  | some e' =>
   rw [h2] at h1
   cases h1' : e'.key with
   | none =>
    rw [hEc i e' h2, h1']
    simp [h1'] at h1
    rw [← h1]
   | some k =>
    rw [hEc i e' h2, h1']
    simp [h1'] at h1
    rw [← h1]
 have hpre : xxP Ec w objs' := by
  refine ⟨fun k => ?_, fun o ho => ?_, fun o ho o' ho' hk => ?_⟩
  ·show (match es[k]? with | some e => xfp E e.key | none => .nilFunc).oneCell' = true
   split
   ·rename_i e _
    cases e.key with
    | none => rfl
    | some k' => exact henv k'
   ·rfl
  ·rw [hspec] at ho
   obtain ⟨⟨e, j⟩, hj, rfl⟩ := List.mem_map.1 ho
   have he := (List.mk_mem_zipIdx_iff_getElem? (l := es) (x := e) (i := j)).1 hj
   obtain ⟨q1, q2, q3⟩ := r2 e (List.mem_of_getElem? he)
   refine ⟨?_, q1, ?_⟩
   ·simp only [Nat.zero_add]; exact q3 E w hH Ec j (hEc j e he)
   ·rw [hlen]; simp only [Nat.zero_add]; exact (List.getElem?_eq_some_iff.1 he).1
  ·rw [hspec] at ho ho'
   obtain ⟨⟨e, j⟩, hj, rfl⟩ := List.mem_map.1 ho
   obtain ⟨⟨e', j'⟩, hj', rfl⟩ := List.mem_map.1 ho'
   simp only [] at hk
   have hjj : j = j' := by omega
   subst hjj
   have he := (List.mk_mem_zipIdx_iff_getElem? (l := es) (x := e) (i := j)).1 hj
   have he' := (List.mk_mem_zipIdx_iff_getElem? (l := es) (x := e') (i := j)).1 hj'
   rw [he] at he'
   cases he'
   rfl
 have hcall := hcon hp Ec w hpre
 rw [xnc, c3 E Ec hEc0] at hcall
 refine hcall.mono fun e w' ⟨E2, he, hg⟩ => ?_
 let E' : Env := fun k => if k < K then E k else E2 (es.length + (k - K))
 have hE' : ∀ i ∈ AV.keys x.v, E' (xma K es i) = E2 i := by
  intro i hi
  rcases hok i hi with ⟨h0, en, k, h1, h2, h3, h4⟩ | ⟨h1, h2, h3⟩
  ·rw [h4, hg.agree i (by rw [hlen]; exact h0), hEc i en h1, h2]
   exact if_pos h3
  ·rw [h3]
   show (if K + (i - es.length) < K then _ else _) = _
   rw [if_neg (by omega)]
   congr 1
   omega
 have hE'a : ∀ o ∈ x.add, E' (K + (o.key - es.length)) = E2 o.key := by
  intro o ho
  have := hadd o ho
  show (if K + (o.key - es.length) < K then _ else _) = _
  rw [if_neg (by omega)]
  congr 1
  omega
 refine ⟨E', by rw [he]; congr 1; exact (xyy (p := fun k => k ∈ AV.keys x.v) (fun k hk => hE' k hk) x.v ((xhp _).2 fun k hk => hk)).symm, ⟨fun k hk => if_pos hk, fun k => ?_, hg.below, ?_, ?_, ?_, ?_, ?_⟩⟩
 ·show (if k < K then E k else _).oneCell' = true
  split
  ·exact henv k
  ·exact hg.env _
 ·intro o ho
  obtain ⟨o', ho', rfl⟩ := mem o ho
  have hb := hg.bodies o' ho'
  have hf := hwf.flat o' ho'
  have he := hE'a o' ho'
  obtain ⟨ok, ov, oo, ob⟩ := o'
  simp only [] at hb hf he ⊢
  cases ob with
  | row e ks l =>
   have hb : xbc w' oo e ks.length (E2 ok) l.length (rowV ks l) := hb
   show xbc w' oo e ks.length (E' _) l.length (rowV ks l)
   rw [he]; exact hb
  | nil => exact he.trans hb
  | nst e ks l => obtain ⟨vs, hb⟩ := hb; exact ⟨vs, by rw [he]; exact hb⟩
  | sub e ks l => exact ⟨hb.1, by rw [he]; exact hb.2⟩
  | cells => cases hf
  | arr => cases hf
  | mp => cases hf
  | fin => cases hf
  | loop => cases hf
 ·intro o ho b hb
  obtain ⟨o', ho', rfl⟩ := mem o ho
  simp only [hE'a o' ho'] at hb
  exact hg.own o' ho' b hb
 ·intro o ho o2 ho2 hown hne b hb
  obtain ⟨o', ho', rfl⟩ := mem o ho
  obtain ⟨o2', ho2', rfl⟩ := mem o2 ho2
  simp only [hE'a o' ho'] at hb
  simp only [hE'a o2' ho2']
  exact hg.inj o' ho' o2' ho2' hown (fun e => hne (by simp only [e])) b hb
 ·intro o ho b hb
  obtain ⟨o', ho', rfl⟩ := mem o ho
  exact hg.inn o' ho' b (xBn (hE'a o' ho') hb)
 ·intro o ho b hb o2 ho2 hown
  obtain ⟨o', ho', rfl⟩ := mem o ho
  obtain ⟨o2', ho2', rfl⟩ := mem o2 ho2
  simp only [hE'a o2' ho2']
  exact hg.dq o' ho' b (xBn (hE'a o' ho') hb) o2' ho2' hown
theorem xC6 {a : AV} {k : Nat} {b : Body} {p : Option Prop} (ha : isVw a = true) (hs : srcA P objs a = some (k, b, p)) : ∃ e ks l, b = .row e ks l := by
 cases a <;> simp [isVw] at ha
 simp only [srcA] at hs
 repeat' split at hs
 all_goals first | (cases hs; done) | (cases hs; exact ⟨_, _, _, rfl⟩)
def vals (E : Env) (args : List AV) : List Value := (args.filter isVw).map (AV.den E)
theorem xmd {K0 : Nat} : ∀ (args : List AV) (K : Nat) (args' : List AV) (add : List Obj) (ft : List Nat) (p : Option Prop), K0 ≤ K → AV.ltL K0 args → xqW P objs K args = some (args', add, ft, p) →
  add.length = (args.filter isVw).length ∧ AV.ltL (K + add.length) args' ∧ (∀ o ∈ add, K ≤ o.key ∧ o.key < K + add.length) ∧
  ∀ (X : List (Nat × Go.Obj)) (E : Env) (w0 w : World) (n : Nat), xag X E w0 ⟨objs, n⟩ w → xpB p → ∀ E2 : Env, (∀ k, k < K0 → E2 k = E k) → (∀ i v, (vals E args)[i]? = some v → E2 (K + i) = v) → AV.denL E2 args' = AV.denL E args ∧ xuE P E2 w add
 | [], K, args', add, ft, p, _, _, h => by
  cases h
  exact ⟨rfl, trivial, by simp, fun X E w0 w n hH _ E2 _ _ => ⟨rfl, ⟨by simp, by simp, by simp, by simp⟩⟩⟩
 | a :: r, K, args', add, ft, p, hK, hl, h => by
  unfold xqW at h
  split at h
  ·rename_i ha
   split at h
   ·rename_i k b p1 r' add' ft' q hs hr
    cases h
    obtain ⟨i1, i2, i3, i4⟩ := xmd r (K + 1) r' add' ft' q (by omega) hl.2 hr
    refine ⟨by simp [ha, i1], ⟨show K < K + (add'.length + 1) by omega, xzb (show K + 1 + add'.length ≤ K + (add'.length + 1) by omega) _ i2⟩, ?_, ?_⟩
    ·intro o ho
     rcases List.mem_cons.1 ho with rfl | ho
     ·exact ⟨Nat.le_refl _, by simp⟩
     ·have := i3 o ho
      simp only [List.length_cons]
      omega
    ·intro X E w0 w n hH hp E2 e1 e2
     obtain ⟨hp1, hq⟩ := xqN hp
     have hv : vals E (a :: r) = a.den E :: vals E r := by simp [vals, ha]
     obtain ⟨j1, j2⟩ := i4 X E w0 w n hH hq E2 e1 (fun i v hi => by
      have := e2 (i + 1) v (by rw [hv]; simpa using hi)
      rw [show K + 1 + i = K + (i + 1) by omega]; exact this)
     have h0 : E2 K = a.den E := e2 0 _ (by rw [hv]; rfl)
     obtain ⟨eb, kb, lb, hbrow⟩ := xC6 ha hs
     refine ⟨by simp only [AV.denL, AV.den, h0, j1], ?_, ?_, ?_, ?_⟩
     ·intro o ho hb
      rcases List.mem_cons.1 ho with rfl | ho
      ·simp only [] at hb
       subst hb
       cases a <;> simp [isVw] at ha
       simp only [srcA] at hs
       repeat' split at hs
       all_goals cases hs
      ·exact j2.nil o ho hb
     ·intro o ho e ks l hro
      rcases List.mem_cons.1 ho with rfl | ho
      ·obtain ⟨_, _, _, _, hso⟩ := xqc hH hs
       show xbc w false e ks.length (E2 K) l.length (rowV ks l)
       rw [h0]
       exact xsj hro (hso hp1)
      ·exact j2.row o ho e ks l hro
     ·intro o ho e ks l hro
      rcases List.mem_cons.1 ho with rfl | ho
      ·simp only [] at hro; rw [hbrow] at hro; cases hro
      ·exact j2.nst o ho e ks l hro
     ·intro o ho hsb
      rcases List.mem_cons.1 ho with rfl | ho
      ·rfl
      ·exact j2.sub o ho hsb
   ·cases h
  ·rename_i ha
   split at h
   ·rename_i r' add' ft' q hr
    cases h
    obtain ⟨i1, i2, i3, i4⟩ := xmd r K r' add ft p hK hl.2 hr
    refine ⟨by simp [ha, i1], ⟨xg9 (by omega) _ hl.1, i2⟩, i3, fun X E w0 w n hH hp E2 e1 e2 => ?_⟩
    have hv : vals E (a :: r) = vals E r := by simp [vals, ha]
    obtain ⟨j1, j2⟩ := i4 X E w0 w n hH hp E2 e1 (by rw [← hv]; exact e2)
    exact ⟨by simp only [AV.denL, j1, xj8 e1 a hl.1], j2⟩
   ·cases h
theorem xtG (hΓ : xaI P Γ) (hH : xag X E w0 ⟨objs, n⟩ w) {f : FuncId} {args : List AV} {ft : List Nat} {y : Eff} (hargs : AV.ltL K args) (h : xyH P Γ f args objs K = some (ft, y)) :
  xe5 P f ∧ xke K y ∧ (y.holds → Calls P f (AV.denL E args).toArray w fun e w' => ∃ E', e = .returned (y.v.den E') ∧ xxO E w K y E' w') := by
 unfold xyH at h
 split at h
 ·obtain ⟨h1, h2, h3⟩ := xtE hΓ hargs h
  exact ⟨h1, h2, fun hp => h3 hp E w hH.env hH.objsR⟩
 ·split at h
  case h_2 => cases h
  rename_i args' add ft1 p hv
  split at h
  case h_2 => cases h
  rename_i ft' x hc
  cases h
  obtain ⟨i1, i2, i3, i4⟩ := xmd (K0 := K) args K args' add ft1 p (Nat.le_refl _) hargs hv
  obtain ⟨h1, h2, h3⟩ := xtE hΓ i2 hc
  refine ⟨h1, ⟨h2.rm, fun o ho => ?_, h2.uniq, h2.flat, ?_, fun o ho => ?_⟩, fun hp => ?_⟩
  ·have := h2.key o ho
   refine ⟨by omega, ?_⟩
   simp only []
   split
   ·rename_i hc
    rw [Bool.and_eq_true, Bool.and_eq_true] at hc
    have : x.add = [] := by simpa using hc.1.2
    rw [this] at ho
    cases ho
   ·omega
  ·simp only []
   split
   ·rename_i hc
    rw [Bool.and_eq_true, Bool.and_eq_true] at hc
    exact (xhp x.v).2 fun k hk => by have := List.all_eq_true.1 hc.2 k hk; simpa using this
   ·have := h2.val
    rw [show K + add.length + x.nk = K + (add.length + x.nk) by omega] at this
    exact this
  ·have := h2.ver o ho
   omega
  ·obtain ⟨hp1, hp2⟩ := xqN (p := p) (q := x.p) hp
   let E2 : Env := fun k => match (if K ≤ k then (vals E args)[k - K]? else (none : Option Value)) with | some v => v | none => E k
   have e1 : ∀ k, k < K → E2 k = E k := fun k hk => by show (match (if K ≤ k then (vals E args)[k - K]? else (none : Option Value)) with | some v => v | none => E k) = E k; rw [if_neg (by omega)]
   have e2 : ∀ i v, (vals E args)[i]? = some v → E2 (K + i) = v := fun i v hi => by
    show (match (if K ≤ K + i then (vals E args)[K + i - K]? else none) with | some v => v | none => E (K + i)) = v
    rw [if_pos (by omega), Nat.add_sub_cancel_left, hi]
   have e3 : ∀ k, (E2 k).oneCell' = true := fun k => by
    show (match (if K ≤ k then (vals E args)[k - K]? else none) with | some v => v | none => E k).oneCell' = true
    split
    ·rename_i v hv
     split at hv
     ·obtain ⟨a, ha, rfl⟩ := List.mem_map.1 (List.mem_of_getElem? hv)
      have := (List.mem_filter.1 ha).2
      cases a <;> simp [isVw] at this
      exact xqu (hH.env _) _ _ _
     ·cases hv
    ·exact hH.env k
   obtain ⟨j1, j2⟩ := i4 X E w0 w n hH hp1 E2 e1 e2
   have hR : xuE P E2 w (add ++ objs.filter fun o => Nat.blt o.key K) := by
    have old : ∀ o ∈ objs.filter (fun o => Nat.blt o.key K), o ∈ objs ∧ E2 o.key = E o.key := fun o ho => by
     obtain ⟨a, b⟩ := List.mem_filter.1 ho
     exact ⟨a, e1 _ (by simpa using b)⟩
    refine ⟨fun o ho hb => ?_, fun o ho e ks l hr => ?_, fun o ho e ks l hr => ?_, fun o ho hr => ?_⟩
    ·rcases List.mem_append.1 ho with ho | ho
     ·exact j2.nil o ho hb
     ·obtain ⟨a, b⟩ := old o ho
      rw [b]; exact (hH.objsR (P := P)).nil o a hb
    ·rcases List.mem_append.1 ho with ho | ho
     ·exact j2.row o ho e ks l hr
     ·obtain ⟨a, b⟩ := old o ho
      rw [b]; exact hH.objsR.row o a e ks l hr
    ·rcases List.mem_append.1 ho with ho | ho
     ·exact j2.nst o ho e ks l hr
     ·obtain ⟨a, b⟩ := old o ho
      rw [b]; exact (hH.objsR (P := P)).nst o a e ks l hr
    ·rcases List.mem_append.1 ho with ho | ho
     ·exact j2.sub o ho hr
     ·obtain ⟨a, b⟩ := old o ho
      exact (hH.objsR (P := P)).sub o a hr
   have := h3 hp2 E2 w e3 hR
   rw [j1] at this
   refine this.mono fun e w' ⟨E', he, hg⟩ => ?_
   let E3 : Env := fun k => if k < K then E k else E' k
   have e4 : ∀ k, k < K + add.length + x.nk → E3 k = E' k := fun k hk => by
    show (if k < K then E k else E' k) = E' k
    split
    ·rename_i hk; rw [hg.agree k (by omega), e1 k hk]
    ·rfl
   have hk3 : ∀ o ∈ x.add, E3 o.key = E' o.key := fun o ho => e4 _ (h2.key o ho).2
   refine ⟨E3, by rw [he]; congr 1; exact (xfN (fun k hk => e4 k hk) _ h2.val).symm, ⟨fun k hk => if_pos hk, fun k => ?_, hg.below, ?_, ?_, ?_, ?_, ?_⟩⟩
   ·show (if k < K then E k else E' k).oneCell' = true
    split
    ·exact hH.env k
    ·exact hg.env k
   ·intro o ho
    exact xoL (h2.flat o ho) (hk3 o ho) (hg.bodies o ho)
   ·intro o ho b hb
    rw [hk3 o ho] at hb
    exact hg.own o ho b hb
   ·intro o ho o2 ho2 hown hne b hb
    rw [hk3 o ho] at hb
    rw [hk3 o2 ho2]
    exact hg.inj o ho o2 ho2 hown hne b hb
   ·intro o ho b hb
    exact hg.inn o ho b (xlM (hk3 o ho) hb)
   ·intro o ho b hb o2 ho2 hown
    rw [hk3 o2 ho2]
    exact hg.dq o ho b (xlM (hk3 o ho) hb) o2 ho2 hown
end
end Go.Sy
