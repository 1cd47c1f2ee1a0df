/-
 The executor is sound: regions in text order; the states of code; loops by rounds; what code xdG.
-/
import Derived.Test.YtnijhjpaplihbaaGreatSyV
import Derived.LoopNIn
import Derived.RangeFuncRecord
set_option linter.unusedVariables false
namespace Go.Sy
open Go.RowKit
section
variable {P : Program} {Γ : Con} {call : xie} {yld : Nat → List AV → Heap → Tree (AV × Heap)} {X : List (Nat × Go.Obj)} {w0 : World} {N : Nat} {D : List Deferred} {rnd : Option Nat}
structure xid (rs : Ctx) (s s0 : xaY) : Prop where
 whens : ∀ u g w v, s0 u = .when g w v → s u = .when g w v
 else_ : ∀ u, s0 u = s u ∨ (∃ g w v, s u = .when g w v) ∨ ∃ c ∈ rs, c.1 = u
theorem xid.refl (rs : Ctx) (s : xaY) : xid rs s s := ⟨fun _ _ _ _ h => h, fun _ => .inl rfl⟩
theorem xmZ {rest : Ctx} {g : Nat} {want b v : Bool} {s s0 : xaY} (h : xid rest (xs6 g v s) s0) : xid ((g, want, b) :: rest) s s0 := by
 refine ⟨fun u g' w x hu => xlh (h.whens u g' w x hu), fun u => ?_⟩
 rcases h.else_ u with h1 | ⟨g', w, x, h1⟩ | ⟨c, hc, h1⟩
 ·by_cases hu : u = g
  ·exact .inr (.inr ⟨_, List.mem_cons_self, hu.symm⟩)
  ·cases hs : s u with
   | when g2 w2 y => exact .inr (.inl ⟨_, _, _, rfl⟩)
   | is y => left; rw [h1]; unfold xs6; rw [xgz _ _ hu, hs]
   | junk => left; rw [h1]; unfold xs6; rw [xgz _ _ hu, hs]
 ·exact .inr (.inl ⟨g', w, x, xlh h1⟩)
 ·exact .inr (.inr ⟨c, List.mem_cons_of_mem _ hc, h1⟩)
theorem xwr {Q : RCfg → Prop} {t e : xaY → Tree RCfg} : ∀ (rs : Ctx) (s : xaY), (∀ s0, xid rs s s0 → (t s0).all Q) → (∀ s0, xid rs s s0 → (e s0).all Q) → (brG rs s t e).all Q
 | [], s, ht, _ => ht s (xid.refl _ _)
 | (g, want, b) :: rest, s, ht, he => ⟨xwr rest (xs6 g want s) (fun s0 h => ht s0 (xmZ h)) (fun s0 h => he s0 (xmZ h)), he _ (xmZ (xid.refl _ _))⟩
def xCE (s : xaY) (dst : Option Nat) (ctx : Ctx) (s' : xaY) : Prop :=
 ∃ sl s0, s' = Sy.put s0 dst sl ∧ (∀ g want v, sl = .when g want v → ∃ b r, ctx = (g, want, b) :: r) ∧ xid ctx.reverse s s0
theorem xjj {s s0 : xaY} (dst : Option Nat) {ctx : Ctx} (v : AV) (h : xid ctx.reverse s s0) : xCE s dst ctx (Sy.put s0 dst (.is v)) := ⟨_, _, rfl, (fun _ _ _ e => by cases e), h⟩
theorem xrX (s : xaY) (dst : Option Nat) (ctx : Ctx) (v : AV) : xCE s dst ctx (Sy.put s dst (xkY ctx v)) := by
 refine ⟨_, _, rfl, fun g want v' e => ?_, xid.refl _ _⟩
 unfold xkY at e
 split at e
 ·cases e
 ·rename_i g' want' b' r'; cases e; exact ⟨b', r', rfl⟩
theorem xtS {α : Type} {ctx : Ctx} {p : Option Prop} {t : Tree α} {Q : α → Prop} (h : t.all Q) : (xw4 ctx p t).all Q := by
 cases p <;> exact h
theorem xmN (s : xaY) (H : Heap) (dst : Option Nat) (ctx : Ctx) (x : Eff) : (xtL s H dst ctx x).all fun y => xCE s dst ctx y.1 := by
 unfold xtL
 split
 ·exact xtS (xrX _ _ _ _)
 ·split
  ·exact xtS (xjj _ _ (xid.refl _ _))
  ·exact xwr _ _ (fun s0 h => xtS (xjj _ _ h)) (fun s0 h => xjj _ _ h)
theorem xsP (o : Oper) (s : xaY) (H : Heap) (ctx : Ctx) : (xtZ P Γ call yld o s H ctx).all fun x => xCE s o.dst ctx x.1 := by
 unfold xtZ
 simp only []
 split
 ·split
  ·exact xrX _ _ _ _
  ·trivial
 ·split
  ·split
   ·exact xmN _ _ _ _ _
   split
   ·exact xmN _ _ _ _ _
   ·split
    ·exact xdN (xiF (fun x => xjj _ _ (xid.refl _ _)) _)
    ·exact xwr _ _ (fun s0 h => xdN (xiF (fun x => xjj _ _ h) _)) (fun s0 h => xjj _ _ h)
  ·split
   ·exact xdN (xiF (fun x => xjj _ _ (xid.refl _ _)) _)
   ·exact xwr _ _ (fun s0 h => xdN (xiF (fun x => xjj _ _ h) _)) (fun s0 h => xjj _ _ h)
  ·trivial
 ·split
  ·exact xmN _ _ _ _ _
  ·split
   ·split
    ·exact ⟨xrX _ _ _ _, xrX _ _ _ _⟩
    ·trivial
   ·trivial
theorem xlO (hΓ : xaI P Γ) (hcall : xkF P call) (hk : xhl P call) (hyld : xuD P yld) (ops : Array Oper) {Q : Exit → Act → World → Prop} :
  ∀ (l : List Oper) (seen : List Nat) (s : xaY) (H : Heap) (E : Env) (a : Act) (w : World), xmb s seen → xaO E H.next N D s a → xag X E w0 H w →
   (xjX P Γ call yld N ops l seen s H).holds (Post X w0 E H N D (Q .normal)) → wpListIn (FR rnd) 0 P ops Q l a w
 | [], seen, s, H, E, a, w, _, hS, hH, h => h E a w (fun _ _ => rfl) hS hH (Nat.le_refl _) (Old.refl _)
 | o :: rest, seen, s, H, E, a, w, hG, hS, hH, h => by
  unfold xjX at h
  split at h
  ·exact h.elim
  ·rename_i seen' hseen
   have hd := xB5 hG hseen
   have next : ∀ (ctx : Ctx), (∀ g want b r, ctx = (g, want, b) :: r → g ∈ seen) →
     ((xtZ P Γ call yld o s H ctx).bind fun (x : RCfg) => xjX P Γ call yld N ops rest seen' x.1 x.2).holds (Post X w0 E H N D (Q .normal)) →
     (xtZ P Γ call yld o s H ctx).holds (Post X w0 E H N D (wpListIn (FR rnd) 0 P ops Q rest)) := by
    intro ctx hc h
    refine xaT (fun x hx => ?_) (xll (xbz h) (xsP o s H ctx))
    obtain ⟨hx, sl, s0, hsl, hguard, hlrn⟩ := hx
    have hG0 : xmb s0 seen := fun t g w v h => hG t g w v (hlrn.whens t g w v h)
    intro E' a' w' hE hS' hH' hle hold
    refine xlO hΓ hcall hk hyld ops rest seen' x.1 x.2 E' a' w' ?_ hS' hH' (xaT (fun y hy => ?_) hx)
    ·rw [hsl]
     exact xnu hG0 hseen fun g want v e => by
      obtain ⟨b, r, hb⟩ := hguard g want v e
      exact hc g want b r hb
    ·intro E2 a2 w2 hE2 hS2 hH2 hle2 hold2
     exact hy E2 a2 w2 (fun k hk => by rw [hE2 k (by omega), hE k hk]) hS2 hH2 (Nat.le_trans hle hle2) (hold.trans hold2 hle)
   split at h
   ·rename_i hg
    have hgo := xrr hg
    have := xov (rnd := rnd) hΓ hcall hk hyld hS hH hd (ctx := []) trivial trivial (Q := Q) (next [] (fun _ _ _ _ e => by cases e) h)
    unfold wpListIn
    rw [if_pos (by simp [Region.wanted, hgo])]
    exact this
   ·rename_i g want hg
    split at h
    ·rename_i hseen2
     have hmem : g ∈ seen := by
      obtain ⟨x, hx, hb⟩ := List.any_eq_true.1 hseen2
      rw [Nat.eq_of_beq_eq_true hb]; exact hx
     obtain ⟨j, oj, hgo, hj, hdj⟩ := xrq hg
     have unwanted : a.tmps.getD g undef ≠ .bool want → ¬ Region.wanted o (yielded ops a.tmps) = true := by
      intro hgv hw
      unfold Region.wanted at hw
      rw [hgo] at hw
      have hw : (yielded ops a.tmps j == some want) = true := hw
      have hy : yielded ops a.tmps j = some want := by simpa using hw
      unfold yielded at hy
      simp only [hj, Option.bind_some, hdj] at hy
      cases ht : a.tmps[g]? with
      | none => rw [ht] at hy; cases hy
      | some v =>
       rw [ht] at hy
       cases v <;> simp at hy
       subst hy
       exact hgv (by rw [Array.getD_eq_getD_getElem?, ht]; rfl)
     split at h
     ·-- a guard that is known to hold
      rename_i hkn
      have hgv : a.tmps.getD g undef = .bool want := by
       have hs := hS.ok g
       unfold xlm at hkn
       split at hkn
       ·rename_i b hsl
        rw [hsl] at hs
        have : b = want := by simpa using hkn
        subst this
        exact hs.1
       ·cases hkn
       ·cases hkn
      have := xov (rnd := rnd) hΓ hcall hk hyld hS hH hd (ctx := []) trivial trivial (Q := Q) (next [] (fun _ _ _ _ e => by cases e) h)
      unfold wpListIn
      rw [if_pos (by simp [Region.wanted, hgo, xqb hj hdj hgv])]
      exact this
     ·-- one that is known not to hold
      rename_i hkn
      have hgv : a.tmps.getD g undef ≠ .bool want := by
       have hs := hS.ok g
       unfold xlm at hkn
       split at hkn
       ·rename_i b hsl
        rw [hsl] at hs
        have : b ≠ want := by simpa using hkn
        intro e
        rw [hs.1] at e
        exact this (by cases e; rfl)
       ·rename_i v hnb hsl
        rw [hsl] at hs
        intro e
        rw [hs.1] at e
        exact hnb want (by rw [show v = Value.bool want from e])
       ·cases hkn
      unfold wpListIn
      rw [if_neg (unwanted hgv)]
      refine ⟨fun _ _ => trivial, ?_⟩
      refine xlO hΓ hcall hk hyld ops rest seen' _ H E _ w ?_ (hS.put hd (sl := .is (.val undef)) ⟨rfl, trivial⟩) hH (xaT (fun y hy => ?_) h)
      ·exact xnu hG hseen fun g want v e => by cases e
      ·exact fun E2 a2 w2 hE2 hS2 hH2 hle2 hold2 => hy E2 a2 w2 hE2 hS2 hH2 hle2 hold2
     ·split at h
      case h_2 => exact h.elim
      rename_i ctx hch
      obtain ⟨q1, q2, b, r, rfl⟩ := xfU hS 9 g want ctx hch
      have hne : o.dst ≠ some g := fun e => by
       have h2 : seen.any (Nat.beq g) = true := hseen2
       rw [e] at hseen
       simp only [xgh, h2] at hseen
       simp at hseen
      have := xov (rnd := rnd) hΓ hcall hk hyld hS hH hd (ctx := (g, want, b) :: r) ⟨q1, q2, hne⟩ (xl6 hS 9 g want _ hch) (Q := Q) (next _ (fun _ _ _ _ e => by cases e; exact hmem) h)
      unfold wpListIn
      by_cases hb : xe8 ((g, want, b) :: r)
      ·rw [if_pos (by simp [Region.wanted, hgo, xqb hj hdj (q1.2 hb)])]
       exact this.1 hb
      ·have hgv : a.tmps.getD g undef ≠ .bool want := fun e => hb (q1.1 e)
       rw [if_neg (unwanted hgv)]
       exact ⟨fun _ _ => trivial, this.2 hb⟩
    ·exact h.elim
   ·exact h.elim
theorem xsO {s : xaY} {dst : Option Nat} {sl : Slot} {t : Nat} (h : dst ≠ some t) : Sy.put s dst sl t = s t := by
 cases dst with
 | none => rfl
 | some d => exact xgz _ _ (fun e => h (by rw [e]))
theorem xoh {s : xaY} {seen : List Nat} (hG : xmb s seen) : ∀ (m g : Nat) (want : Bool) (ctx : Ctx), xbo s m g want = some ctx → g ∈ seen → ∀ c ∈ ctx, c.1 ∈ seen
 | 0, _, _, _, h, _ => by cases h
 | m + 1, g, want, ctx, h, hg => by
  unfold xbo at h
  split at h
  ·split at h
   ·cases h; intro c hc; simp at hc; subst hc; exact hg
   ·cases h
  ·rename_i g1 w1 v hs
   split at h
   case h_2 => cases h
   cases hr : xbo s m g1 w1 with
   | none => rw [hr] at h; cases h
   | some r =>
    rw [hr] at h
    cases h
    intro c hc
    rcases List.mem_cons.1 hc with rfl | hc
    ·exact hg
    ·exact xoh hG m g1 w1 r hr (hG g g1 w1 v hs) c hc
  ·cases h
def xCD (s : xaY) (seen : List Nat) : Prop := ∀ t g w v, s t = .when g w v → t ∈ seen
theorem xyU {N : Nat} {dst : Option Nat} {seen seen' : List Nat} (h : xgh N dst seen = some seen') : (∀ t, t ∈ seen → t ∈ seen') ∧ (∀ d, dst = some d → d ∈ seen') ∧ ∀ t, t ∈ seen' → t ∈ seen ∨ dst = some t := by
 cases dst with
 | none => cases h; exact ⟨fun _ h => h, (fun _ h => by cases h), fun _ h => .inl h⟩
 | some d =>
  simp only [xgh] at h
  split at h
  ·cases h
   refine ⟨fun t ht => List.mem_cons_of_mem _ ht, fun d' hd => by cases hd; exact List.mem_cons_self, fun t ht => ?_⟩
   rcases List.mem_cons.1 ht with rfl | ht
   ·exact .inr rfl
   ·exact .inl ht
  ·cases h
theorem xwv {s : xaY} {seen seen' : List Nat} {N : Nat} {dst : Option Nat} {sl : Slot} (h : xCD s seen) (hs : xgh N dst seen = some seen') : xCD (Sy.put s dst sl) seen' := by
 intro t g w v ht
 obtain ⟨m1, m2, _⟩ := xyU hs
 by_cases hd : dst = some t
 ·exact m2 t hd
 ·rw [xsO hd] at ht
  exact m1 t (h t g w v ht)
theorem xkQ (ops : Array Oper) : ∀ (l : List Oper) (seen : List Nat) (s : xaY) (H : Heap), xmb s seen → xCD s seen → (xjX P Γ call yld N ops l seen s H).all fun x => ∀ t, t ∉ seen → (∀ o ∈ l, o.dst ≠ some t) → x.1 t = s t
 | [], seen, s, H, _, _ => fun t _ _ => rfl
 | o :: rest, seen, s, H, hG, hW => by
  unfold xjX
  split
  ·trivial
  ·rename_i seen' hseen
   have hsm := xyU hseen
   have next : ∀ (ctx : Ctx), (∀ c ∈ ctx, c.1 ∈ seen) → ((xtZ P Γ call yld o s H ctx).bind fun (x : RCfg) => xjX P Γ call yld N ops rest seen' x.1 x.2).all fun x => ∀ t, t ∉ seen → (∀ o' ∈ o :: rest, o'.dst ≠ some t) → x.1 t = s t := by
    intro ctx hctx
    refine xdN (xcS (fun x hx => ?_) (xsP o s H ctx))
    obtain ⟨sl, s0, hsl, hguard, hlrn⟩ := hx
    have hG0 : xmb s0 seen := fun t g w v h => hG t g w v (hlrn.whens t g w v h)
    have hW0 : xCD s0 seen := fun t g w v h => hW t g w v (hlrn.whens t g w v h)
    refine xcS (fun y hy t ht1 ht2 => ?_) (xkQ ops rest seen' x.1 x.2 ?_ ?_)
    ·rw [hy t (fun hm => by
      rcases hsm.2.2 t hm with h | h
      ·exact ht1 h
      ·exact ht2 o (by simp) h) (fun o' ho' => ht2 o' (by simp [ho'])), hsl, xsO (ht2 o (by simp))]
     rcases hlrn.else_ t with h | ⟨g, w, v, h⟩ | ⟨c, hc, h⟩
     ·exact h
     ·exact absurd (hW t g w v h) ht1
     ·exact absurd (by rw [← h]; exact hctx c (List.mem_reverse.1 hc)) ht1
    ·rw [hsl]
     exact xnu hG0 hseen fun g want v e => by
      obtain ⟨b, r, hb⟩ := hguard g want v e
      exact hctx (g, want, b) (by rw [hb]; exact List.mem_cons_self)
    ·rw [hsl]; exact xwv hW0 hseen
   split
   ·exact next [] (fun c hc => by cases hc)
   ·rename_i g want hg
    split
    ·rename_i hs2
     have hmem : g ∈ seen := xkT.1 hs2
     split
     ·exact next [] (fun c hc => by cases hc)
     ·refine xcS (fun y hy t ht1 ht2 => ?_) (xkQ ops rest seen' _ H ?_ (xwv hW hseen))
      ·rw [hy t (fun hm => by
        rcases hsm.2.2 t hm with h | h
        ·exact ht1 h
        ·exact ht2 o (by simp) h) (fun o' ho' => ht2 o' (by simp [ho'])), xsO (ht2 o (by simp))]
      ·exact xnu hG hseen fun g want v e => by cases e
     ·split
      ·rename_i ctx hch
       exact next ctx (xoh hG 9 g want ctx hch hmem)
      ·trivial
    ·trivial
   ·trivial
theorem xsY {α : Type} {Q : α → Prop} {t : Tree α} (h : t.all Q) : ∀ L : List Item, (xya L t).all Q
 | [] => h
 | x :: r => by
  unfold xya
  split
  ·exact xsY h r
  ·exact xsY h r
theorem xqJ (ops : Array Oper) (draw : Bool) (c : Cfg) : (xlo P Γ call yld N ops draw c).all fun x => ∀ t, t ∉ ops.toList.filterMap (·.dst) → x.1 t = xas c.tmps t := by
 have hd : ∀ t, t ∉ ops.toList.filterMap (·.dst) → ∀ o ∈ ops.toList, o.dst ≠ some t := fun t ht o ho e => ht (List.mem_filterMap.2 ⟨o, ho, e⟩)
 unfold xlo
 split
 ·exact ⟨trivial, trivial⟩
 split
 ·exact xcS (fun x hx t ht => hx t (fun h => by cases h) (hd t ht)) (xkQ ops _ [] _ _ (fun t g w v h => by unfold xas at h; split at h <;> cases h) (fun t g w v h => by unfold xas at h; split at h <;> cases h))
 ·unfold xqM
  have key : ∀ (n : Nat) (as : List (Nat × Bool)), (xtt P Γ call N ops (xas c.tmps) c.heap n as).all fun x => ∀ t, t ∉ ops.toList.filterMap (·.dst) → x.1 t = xas c.tmps t := by
   intro n
   induction n with
   | zero => intro as; trivial
   | succ n ih =>
    intro as
    unfold xtt
    split
    ·rename_i L hrun
     split
     ·refine xsY ?_ L
      intro t ht
      obtain ⟨hmap, _⟩ := xqo _ _ _ _ _ hrun
      rcases xkX (t := t) L 0 (fun _ => true) (xas c.tmps) with h | ⟨k, it, h1, _, h3, _⟩
      ·exact h
      ·exfalso
       refine hd t ht it.o ?_ h3
       rw [← hmap]
       exact List.mem_map.2 ⟨it, List.mem_of_getElem? h1, rfl⟩
     ·trivial
    ·split
     ·exact ⟨ih _, ih _⟩
     ·trivial
  exact key _ _
def xtV (F : Fence) (n : Nat) (P : Program) (c : Code) (Q : Exit → Act → World → Prop) (a : Act) (w : World) : Prop :=
 ∀ (b : Frame) (k : List Go.Item) (cs : List Frame), b.roundOf = F.round → F.fn b.fn → F.room (cs.length + 1 + n) →
  ∃ e a' w', Q e a' w' ∧ ArrivesIn (Machine.fenced P F) P (lone (b.atR a (.code c :: .inLoop c :: k)) cs w) b k cs e a' w'
theorem xnH {F : Fence} {n : Nat} {c : Code} {Q : Exit → Act → World → Prop} {a : Act} {w : World} (h : xtV F n P c Q a w) : (Code.loop c).wpIn F n P Q a w := by
 intro b k cs hro hb hr
 obtain ⟨e, a', w', hq, harr⟩ := h b k cs hro hb hr
 exact ⟨e, a', w', hq, .of_steps (.one (fenced_calm hb hr rfl) stepR_loop) harr⟩
theorem xky {F : Fence} {n : Nat} {c : Code} {Q : Exit → Act → World → Prop} {a : Act} {w : World} (h : c.wpIn F n P (Exit.then (xtV F n P c Q) Q) a w) : xtV F n P c Q a w := by
 intro b k cs hro hb hr
 obtain ⟨e, a₁, w₁, hq, harr⟩ := h b (.inLoop c :: k) cs hro hb hr
 cases e with
 | normal =>
  obtain ⟨e₂, a₂, w₂, hq₂, harr₂⟩ := hq b k cs hro hb hr
  exact ⟨e₂, a₂, w₂, hq₂, .of_steps (StepsIn.trans harr (.one (fenced_calm hb hr rfl) stepR_inLoop)) harr₂⟩
 | exit id => exact ⟨_, a₁, w₁, hq, .pass (x := .inLoop c) rfl (fun _ _ => .inl (by simp)) harr⟩
 | goto l => exact ⟨_, a₁, w₁, hq, .pass (x := .inLoop c) rfl (fun _ _ => .inl (by simp)) harr⟩
 | ret => exact ⟨_, a₁, w₁, hq, .pass (x := .inLoop c) rfl (fun _ _ => .inl (by simp)) harr⟩
 | panic ch => exact ⟨_, a₁, w₁, hq, .pass (x := .inLoop c) rfl (fun _ _ => .inl (by simp)) harr⟩
 | outgrown => exact ⟨_, a₁, w₁, hq, .pass (x := .inLoop c) rfl (fun _ _ => .inl (by simp)) harr⟩
def mark (r : Nat) : Deferred := { target := .collected r, args := #[] }
def xsQ (rs : List Nat) (X0 : List (Nat × Go.Obj)) : List (Nat × Go.Obj) := rs.map (fun r => (r, Go.Obj.deferred (some []))) ++ X0
def xjs (X0 : List (Nat × Go.Obj)) (E : Env) (w0 : World) (N : Nat) (c : Cfg) (a : Act) (w : World) : Prop :=
 ∃ rs : List Nat, (∀ r ∈ rs, w0.heap.size ≤ r ∧ ∀ x ∈ X0, x.1 ≠ r) ∧ rs.Nodup ∧ xaO E c.heap.next N (rs.map mark) (xas c.tmps) a ∧ xag (xsQ rs X0) E w0 c.heap w
def xdI.toExit : xdI → Exit
 | .normal => .normal
 | .exit id => .exit id
 | .ret => .ret
def xnk (X0 : List (Nat × Go.Obj)) (w0 : World) (E : Env) (N : Nat) (c : Cfg) (Q : Exit → Act → World → Prop) (x : xdI × Cfg) : Prop :=
 ∀ E' a' w', (∀ k, k < c.heap.next → E' k = E k) → xjs X0 E' w0 N x.2 a' w' → c.heap.next ≤ x.2.heap.next → Old c.heap x.2.heap → Q x.1.toExit a' w'
theorem xnk.next {X0 : List (Nat × Go.Obj)} {E E' : Env} {c c' : Cfg} {Q : Exit → Act → World → Prop} {x : xdI × Cfg} (h : xnk X0 w0 E N c Q x) (hE : ∀ k, k < c.heap.next → E' k = E k) (hle : c.heap.next ≤ c'.heap.next) (hold : Old c.heap c'.heap) : xnk X0 w0 E' N c' Q x :=
 fun E2 a2 w2 hE2 hc2 hle2 hold2 => h E2 a2 w2 (fun k hk => by rw [hE2 k (Nat.lt_of_lt_of_le hk hle), hE k hk]) hc2 (Nat.le_trans hle hle2) (hold.trans hold2 hle)
theorem xjs.point {X0 : List (Nat × Go.Obj)} {E : Env} {c : Cfg} {a : Act} {w : World} (h : xjs X0 E w0 N c a w) {t : Nat} {v : AV} (ht : c.tmps t = some v) : a.tmps.getD t undef = v.den E ∧ AV.lt c.heap.next v := by
 obtain ⟨rs, _, _, hS, _⟩ := h
 have := hS.ok t
 have e : xas c.tmps t = .is v := by simp [xas, ht]
 rw [e] at this
 exact this
theorem xjs.lt {X0 : List (Nat × Go.Obj)} {E : Env} {c : Cfg} {a : Act} {w : World} (h : xjs X0 E w0 N c a w) : ∀ o ∈ c.heap.objs, o.key < c.heap.next ∧ xbh (fun k => k < c.heap.next) o.body := by
 obtain ⟨rs, _, _, _, hH⟩ := h
 exact hH.lt
theorem xjs.uniq {X0 : List (Nat × Go.Obj)} {E : Env} {c : Cfg} {a : Act} {w : World} (h : xjs X0 E w0 N c a w) : ∀ o ∈ c.heap.objs, ∀ o' ∈ c.heap.objs, o.key = o'.key → o = o' := by
 obtain ⟨rs, _, _, _, hH⟩ := h
 exact hH.uniq
theorem xjs.readS {X0 : List (Nat × Go.Obj)} {E : Env} {c : Cfg} {a : Act} {w : World} (h : xjs X0 E w0 N c a w) {x : Operand} {v : AV} (hx : readS [] (xas c.tmps) x = some v) : a.eval x = v.den E ∧ AV.lt c.heap.next v := by
 obtain ⟨rs, _, _, hS, _⟩ := h
 exact xir hS [] (fun _ e => by cases e) x _ hx
theorem xof (f : Nat → Option AV) : xmb (xas f) [] := by
 intro t g want v h
 unfold xas at h
 split at h <;> cases h
theorem xB2 {E : Env} {n : Nat} {s : xaY} {a : Act} (h : xaO E n N D s a) : xaO E n N D (xas (xhY s)) a := by
 refine ⟨h.defers, h.size, fun t => ?_⟩
 have := h.ok t
 cases hs : s t with
 | is v =>
  rw [hs] at this
  have e : xas (xhY s) t = .is v := by simp [xas, xhY, hs]
  rw [e]; exact this
 | when g want v =>
  have e : xas (xhY s) t = .junk := by simp [xas, xhY, hs]
  rw [e]; trivial
 | junk =>
  have e : xas (xhY s) t = .junk := by simp [xas, xhY, hs]
  rw [e]; trivial
def Wr (c : Cfg) (wr : List Nat) (x : xdI × Cfg) : Prop := x.1 ≠ .ret → ∀ t, t ∉ wr → x.2.tmps t = c.tmps t
theorem xsU (f : Nat → Option AV) (t : Nat) : xhY (xas f) t = f t := by
 unfold xhY xas
 cases f t <;> rfl
theorem xle {t : Nat} : ∀ (l acc : List Nat), t ∈ xib l acc ↔ t ∈ l ∨ t ∈ acc
 | [], acc => by simp [xib]
 | a :: r, acc => by
  unfold xib
  split
  ·rename_i h
   rw [xle r acc]
   have ha := xkT.1 h
   constructor
   ·rintro (h | h)
    ·exact .inl (by simp [h])
    ·exact .inr h
   ·rintro (h | h)
    ·rcases List.mem_cons.1 h with rfl | h
     ·exact .inr ha
     ·exact .inl h
    ·exact .inr h
  ·rw [xle r (a :: acc)]
   simp only [List.mem_cons]
   constructor
   ·rintro (h | h | h)
    ·exact .inl (.inr h)
    ·exact .inl (.inl h)
    ·exact .inr h
   ·rintro ((h | h) | h)
    ·exact .inr (.inl h)
    ·exact .inl h
    ·exact .inr (.inr h)
theorem xrn {t : Nat} : ∀ {l : List (Nat × AV)}, (∀ x ∈ l, x.1 ≠ t) → xgO t l = none
 | [], _ => rfl
 | (t', v) :: r, h => by
  unfold xgO
  rw [xil (fun e => h (t', v) (by simp) e.symm)]
  exact xrn (fun x hx => h x (by simp [hx]))
theorem xoj (xs : List U) : ∀ (l : List (Nat × AV)) (j : Nat), (xbq xs l j).1.map (·.1) = l.map (·.1)
 | [], _ => rfl
 | (t, v) :: r, j => by
  show (t :: ((xbq xs r (xhb xs v j).2).1.map (·.1))) = _
  rw [xoj xs r]
  rfl
theorem xnv {S : Spec} {st : List Obj} {wr : List Nat} {tm : Nat → Option AV} {xs : List U} (h : xvq wr S = true) {t : Nat} (ht : t ∉ wr) : (S.gen st wr tm xs).tmps t = tm t := by
 have e : (S.gen st wr tm xs).tmps t = (match xgO t (xbq xs S.slots 0).1 with | some v => some v | none => if wr.any (Nat.beq t) then none else tm t) := rfl
 rw [e, xrn]
 ·have : wr.any (Nat.beq t) = false := Bool.eq_false_iff.2 (fun hb => ht (xkT.1 hb))
  simp [this]
 ·intro x hx he
  have h1 : t ∈ (xbq xs S.slots 0).1.map (·.1) := List.mem_map.2 ⟨x, hx, he⟩
  rw [xoj] at h1
  obtain ⟨y, hy, hyt⟩ := List.mem_map.1 h1
  have := List.all_eq_true.1 h y hy
  rw [hyt] at this
  exact ht (xkT.1 this)
theorem xva {st : List Obj} {wr : List Nat} {tm : Nat → Option AV} {r : Nat × List U} : ∀ {outs : List (Nat × xdI × Spec)}, xy5 wr outs = true → (brs st wr tm r outs).all fun x => x.1 ≠ .ret → ∀ t, t ∉ wr → x.2.tmps t = tm t
 | [], _ => trivial
 | [(n, y, T)], h => by
  intro hy t ht
  have h1 := List.all_eq_true.1 h (n, y, T) (by simp)
  cases y with
  | ret => exact absurd rfl hy
  | normal => exact xnv h1 ht
  | exit id => exact xnv h1 ht
 | (n, y, T) :: z :: r', h => by
  refine ⟨?_, xva (outs := z :: r') (by
   unfold xy5 at h ⊢
   rw [List.all_cons, Bool.and_eq_true] at h
   exact h.2)⟩
  intro hy t ht
  have h1 := List.all_eq_true.1 h (n, y, T) (by simp)
  cases y with
  | ret => exact absurd rfl hy
  | normal => exact xnv h1 ht
  | exit id => exact xnv h1 ht
theorem xut (res wr : List Nat) (body : Cfg → Tree (xdI × Cfg)) (c0 : Cfg) : (xh1 P res wr body c0).all (Wr c0 wr) := by
 unfold xh1
 simp only []
 split
 ·split
  ·rename_i hc
   rw [Bool.and_eq_true] at hc
   exact xva hc.2
  ·trivial
 ·trivial
theorem xhh {wr : List Nat} : ∀ {ts : List Nat} {c1 : Cfg}, (∀ t ∈ ts, t ∈ wr) → (xmj ts c1).all (fun c2 => ∀ t, t ∉ wr → c2.tmps t = c1.tmps t)
 | [], c1, h => fun t _ => rfl
 | t :: r, c1, h => by
  unfold xmj
  split
  ·split
   ·refine xcS (fun c2 h2 t' ht' => ?_) (xhh (ts := r) fun t ht => h t (List.mem_cons_of_mem _ ht))
    rw [h2 t' ht']
    exact xgz _ _ (fun e => ht' (e ▸ h t List.mem_cons_self))
   ·exact xhh (ts := r) fun t ht => h t (List.mem_cons_of_mem _ ht)
  ·exact xhh (ts := r) fun t ht => h t (List.mem_cons_of_mem _ ht)
theorem xvw {code : Code} {c : Cfg} {r : xdI × Cfg} (h : Wr c (xdG code) r) : (xwL (xib (xdG code) []) c r).all (Wr c (xdG code)) := by
 obtain ⟨x, c1⟩ := r
 have hts : ∀ t ∈ (xib (xdG code) []).filter fun t => xCQ (c.tmps t), t ∈ xdG code := by
  intro t ht
  have := (List.mem_filter.1 ht).1
  rcases (xle _ _).1 this with h | h
  ·exact h
  ·cases h
 cases x with
 | ret => exact h
 | normal => exact xdN (xcS (fun c2 h2 hx t ht => by show c2.tmps t = _; rw [h2 t ht]; exact h hx t ht) (xhh hts))
 | exit id => exact xdN (xcS (fun c2 h2 hx t ht => by show c2.tmps t = _; rw [h2 t ht]; exact h hx t ht) (xhh hts))
theorem xdk {rb : Bool} {res : List Nat} : ∀ (code : Code) (c : Cfg), (xaX P Γ call yld rb res N code c).all (Wr c (xdG code))
 | .skip, c => fun _ t _ => rfl
 | .region id ops draw, c => by
  unfold xaX
  refine xdN (xcS (fun x hx => ?_) (xqJ ops draw c))
  intro _ t ht
  show xhY x.1 t = c.tmps t
  have := hx t ht
  rw [← xsU c.tmps t]
  unfold xhY
  rw [this]
 | .seq x y, c => by
  unfold xaX
  refine xdN (xcS (fun r hr => ?_) (xdk x c))
  obtain ⟨e, c'⟩ := r
  have left : e ≠ .ret → ∀ t, t ∉ xdG (.seq x y) → c'.tmps t = c.tmps t := fun he t ht => hr he t (fun h => ht (List.mem_append.2 (.inl h)))
  cases e with
  | normal =>
   refine xcS (fun r2 hr2 he t ht => ?_) (xdk y c')
   rw [hr2 he t (fun h => ht (List.mem_append.2 (.inr h))), left (fun h => by cases h) t ht]
  | exit id => exact left
  | ret => exact left
 | .cond x t e, c => by
  unfold xaX
  have l : (xaX P Γ call yld rb res N t c).all (Wr c (xdG (.cond x t e))) := xcS (fun r hr he u hu => hr he u (fun h => hu (List.mem_append.2 (.inl h)))) (xdk t c)
  have r : (xaX P Γ call yld rb res N e c).all (Wr c (xdG (.cond x t e))) := xcS (fun r hr he u hu => hr he u (fun h => hu (List.mem_append.2 (.inr h)))) (xdk e c)
  split
  ·exact ⟨l, r⟩
  ·rename_i b _
   cases b
   ·exact r
   ·exact l
  ·trivial
 | .block id body, c => by
  unfold xaX
  refine xdN (xcS (fun r hr => ?_) (xdk body c))
  obtain ⟨e, c'⟩ := r
  cases e with
  | normal => exact hr
  | exit id' =>
   show Tree.all (if Nat.beq id' id = true then _ else _) _
   split
   ·exact fun _ => hr (fun h => by cases h)
   ·exact hr
  | ret => exact fun h => absurd rfl h
 | .exit id, c => fun _ t _ => rfl
 | .ret, c => fun _ t _ => rfl
 | .loop body, c => by
  unfold xaX
  have key : ∀ (known : Cfg → Bool) (n : Nat) (c : Cfg), (xny known (xh1 P res (xib (xdG body) []) fun c => (xaX P Γ call yld rb res N body c).bind (xwL (xib (xdG body) []) c)) (fun c => xaX P Γ call yld rb res N body c) n c).all (Wr c (xdG body)) := by
   intro known n
   induction n with
   | zero => intro c; trivial
   | succ n ih =>
    intro c
    unfold xny
    split
    ·refine xdN (xcS (fun r hr => ?_) (xdk body c))
     obtain ⟨e, c'⟩ := r
     cases e with
     | normal =>
      refine xcS (fun r2 hr2 he t ht => ?_) (ih c')
      rw [hr2 he t ht]
      exact hr (fun h => by cases h) t ht
     | exit id => exact hr
     | ret => exact hr
    ·exact xcS (fun r hr he t ht => hr he t (fun h => ht (by rcases (xle _ _).1 h with h | h; exact h; cases h))) (xut res _ _ c)
  exact key _ _ c
 | .rangeFunc f params assign body, c => by
  unfold xaX
  split
  ·trivial
  ·split
   ·refine xdN (xiF (fun x => ?_) _)
    obtain ⟨v, H2⟩ := x
    simp only []
    split
    ·split
     ·trivial
     ·split
      ·exact fun _ t _ => rfl
      ·trivial
    ·trivial
   ·trivial
 | .scope body, c => by unfold xaX; exact xdk body c
 | .label _, c => by unfold xaX; exact fun _ t _ => rfl
 | .goto _, c => trivial
 | .refuse _, c => trivial
end
end Go.Sy
