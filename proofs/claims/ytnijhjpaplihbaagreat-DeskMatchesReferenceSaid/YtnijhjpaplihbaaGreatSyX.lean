/-
 The executor is sound: loops whose rounds are not known.
-/
import Derived.Test.YtnijhjpaplihbaaGreatSyW
set_option linter.unusedVariables false
namespace Go.Sy
open Go.RowKit
section
variable {P : Program} {X0 : List (Nat × Go.Obj)} {w0 : World} {N : Nat} {rnd : Option Nat} {S : Spec} {st : List Obj} {ver : Nat} {outs : List (Nat × xdI × Spec)}
theorem xgL {Φ Ψ : xdI × Cfg → Prop} {res : Nat × List U} (hleaf : ∀ x n, (xbL P S st ver outs (.ret x) n).1.opt = some res → Ψ x → Φ x) :
  ∀ (t : Tree (xdI × Cfg)) (n : Nat), (xbL P S st ver outs t n).1.opt = some res → t.all Ψ → t.holds Φ
 | .ret x, n, h, ha => hleaf x n h ha
 | .br b t e, n, h, ha => by
  have e1 : (xbL P S st ver outs (.br b t e) n).1 = .br b (xbL P S st ver outs t n).1 (xbL P S st ver outs e (xbL P S st ver outs t n).2).1 := rfl
  rw [e1] at h
  cases b with
  | true => exact ⟨fun _ => xgL hleaf t n h ha.1, fun hb => (by cases hb)⟩
  | false => exact ⟨fun hb => (by cases hb), fun _ => xgL hleaf e _ h ha.2⟩
 | .need p t, n, h, ha => by
  have e1 : (xbL P S st ver outs (.need p t) n).1 = .need p (xbL P S st ver outs t n).1 := rfl
  rw [e1] at h
  exact ⟨(xjU h).1, xgL hleaf t n (xjU h).2 ha⟩
 | .ask p t e, n, h, ha => by
  have e1 : (xbL P S st ver outs (.ask p t e) n).1 = .ask p (xbL P S st ver outs t n).1 (xbL P S st ver outs e (xbL P S st ver outs t n).2).1 := rfl
  rw [e1] at h
  exact ⟨fun hp => xgL hleaf t n (((xjU h).1 hp).trans (xjU h).2) ha.1, xgL hleaf e _ (xjU h).2 ha.2⟩
 | .bad, n, h, _ => by cases h
theorem xwM {x y : xdI} (h : y.same x = true) : y.toExit = x.toExit ∧ (y = .ret ↔ x = .ret) := by
 cases x <;> cases y <;> first | (cases h; done) | exact ⟨rfl, by simp⟩ | skip
 rename_i a b
 have : b = a := Nat.eq_of_beq_eq_true h
 subst this
 exact ⟨rfl, by simp⟩
theorem xsW {x : xdI} {c : Cfg} {n : Nat} {res : Nat × List U} (h : (xbL P S st ver outs (.ret (x, c)) n).1.opt = some res) :
  (x = .normal ∧ ∃ us, S.match_ P st ver c = some us ∧ res = (0, us)) ∨
  (x ≠ .normal ∧ ∃ m y T us, outs.find? (fun y => Nat.beq y.1 (n + 1)) = some (m, y, T) ∧ y.same x = true ∧ c.heap.next ≤ T.base ∧ T.match_ P (T.still st) ver c = some us ∧ res = (n + 1, us)) := by
 have exit_ : x ≠ .normal → ((match outs.find? (fun y => Nat.beq y.1 (n + 1)) with
   | some (_, y, T) => if y.same x && Nat.ble c.heap.next T.base then (match T.match_ P (T.still st) ver c with | some us => Tree.ret (n + 1, us) | none => .bad) else .bad
   | none => .bad) : Tree (Nat × List U)).opt = some res →
   ∃ m y T us, outs.find? (fun y => Nat.beq y.1 (n + 1)) = some (m, y, T) ∧ y.same x = true ∧ c.heap.next ≤ T.base ∧ T.match_ P (T.still st) ver c = some us ∧ res = (n + 1, us) := by
  intro _ h
  split at h
  ·rename_i m y T hf
   split at h
   ·rename_i hc
    rw [Bool.and_eq_true] at hc
    split at h
    ·rename_i us hm
     cases h
     exact ⟨m, y, T, us, hf, hc.1, Nat.le_of_ble_eq_true hc.2, hm, rfl⟩
    ·cases h
   ·cases h
  ·cases h
 cases x with
 | normal =>
  refine .inl ⟨rfl, ?_⟩
  simp only [xbL] at h
  split at h
  ·rename_i us hm; cases h; exact ⟨us, hm, rfl⟩
  ·cases h
 | exit id => exact .inr ⟨fun e => (by cases e), exit_ (fun e => by cases e) h⟩
 | ret => exact .inr ⟨fun e => (by cases e), exit_ (fun e => by cases e) h⟩
theorem xtH {wr : List Nat} {tm : Nat → Option AV} {r : Nat × List U} {Ψ : xdI × Cfg → Prop} : ∀ {outs : List (Nat × xdI × Spec)} {m : Nat} {y : xdI} {T : Spec}, (brs st wr tm r outs).holds Ψ →
  outs.find? (fun y => Nat.beq y.1 r.1) = some (m, y, T) → Ψ (y, T.gen (T.still st) wr (tmOf y tm) r.2)
 | [], _, _, _, h, _ => h.elim
 | [(n, y', T')], m, y, T, h, hf => by
  cases hb : Nat.beq n r.1 with
  | true => simp only [List.find?, hb] at hf; cases hf; exact h
  | false => simp only [List.find?, hb] at hf; cases hf
 | (n, y', T') :: z :: rest, m, y, T, h, hf => by
  cases hb : Nat.beq n r.1 with
  | true =>
   rw [List.find?_cons_of_pos (by exact hb)] at hf
   cases hf
   exact h.1 (by rw [Nat.eq_of_beq_eq_true hb]; exact xdM _)
  | false =>
   rw [List.find?_cons_of_neg (by rw [hb]; simp)] at hf
   exact xtH (outs := z :: rest) (h.2 (xil (fun e => Nat.ne_of_beq_eq_false hb e.symm))) hf
theorem xmX {step : List U → Option (Nat × List U)} {xs : List U} (h : xay step xs) : ∃ n, xkg step n xs = some (xaC step xs) := by
 unfold xaC
 rw [dif_pos h]
 exact ⟨_, h.choose_spec.choose_spec⟩
theorem xjm {wr : List Nat} {tm : Nat → Option AV} {xs : List U} : (S.gen st wr tm xs).heap.next = S.base + S.rows.length + 1 := rfl
theorem xxs {wr : List Nat} {tm : Nat → Option AV} {xs : List U} : ∀ o ∈ st, o ∈ (S.gen st wr tm xs).heap.objs := fun o ho => by
 have e : (S.gen st wr tm xs).heap.objs = (xbQ S.base xs S.objs (xbq xs S.slots 0).2).1 ++ xeC S.base xs S.base S.rows (xbQ S.base xs S.objs (xbq xs S.slots 0).2).2 ++ st := rfl
 rw [e]
 exact List.mem_append.2 (.inr ho)
theorem xv8 {code : Code} {body : Cfg → Tree (xdI × Cfg)} {res : List Nat}
  (hbody : ∀ (c : Cfg) (E : Env) (a : Act) (w : World) (Q : Exit → Act → World → Prop), xjs X0 E w0 N c a w → (body c).holds (xnk X0 w0 E N c Q) → code.wpIn (FR rnd) 0 P Q a w)
  (hwr : ∀ c, (body c).all (Wr c (xdG code))) {c0 : Cfg} {E : Env} {a : Act} {w : World} {Q : Exit → Act → World → Prop} (hc0 : xjs X0 E w0 N c0 a w)
  (h : (xh1 P res (xib (xdG code) []) body c0).holds (xnk X0 w0 E N c0 Q)) : xtV (FR rnd) 0 P code Q a w := by
 unfold xh1 at h
 simp only [] at h
 generalize hS : Spec.search P (xib (xdG code) []) c0 body 4 ⟨(xju c0.tmps (xib (xdG code) [])).filter (fun x => !xv6 x.2), [], [], c0.heap.next, []⟩ = S at h
 generalize houts : xwZ S (S.still c0.heap.objs) (S.base + S.rows.length + 1) res 0 (xlg (body (S.gen (S.still c0.heap.objs) (xib (xdG code) []) c0.tmps []))) = outs at h
 have hwrm : ∀ t, t ∉ xib (xdG code) [] → t ∉ xdG code := fun t ht hm => ht ((xle _ _).2 (.inl hm))
 generalize hwr0 : xib (xdG code) [] = wr at h hwrm hS houts
 have hst0 : ∀ o ∈ S.still c0.heap.objs, o ∈ c0.heap.objs := fun o ho => (List.mem_filter.1 ho).1
 generalize hst : S.still c0.heap.objs = st at h hst0 houts
 split at h
 case h_2 => exact h.elim
 rename_i xs0 hm0
 split at h
 case isFalse => exact h.elim
 rename_i hcond
 rw [Bool.and_eq_true, Bool.and_eq_true] at hcond
 obtain ⟨⟨hbase, hsin⟩, hoin⟩ := hcond
 have hbase : S.base = c0.heap.next := Nat.eq_of_beq_eq_true hbase
 obtain ⟨hok, hbrs⟩ := h
 obtain ⟨n0, hn0⟩ := xmX hok
 generalize hr : xaC (fun xs => (xbL P S st (S.base + S.rows.length + 1) outs (body (S.gen st wr c0.tmps xs)) 0).1.opt) xs0 = r at hbrs hn0
 have hst2 : ∀ o ∈ st, o.key < S.base ∧ xbh (fun k => k < S.base) o.body := fun o ho => by rw [hbase]; exact hc0.lt o (hst0 o ho)
 have hlt0 : ∀ t v, c0.tmps t = some v → AV.lt S.base v := fun t v ht => by rw [hbase]; exact (hc0.point ht).2
 have key : ∀ (n : Nat) (xs : List U) (E1 : Env) (a1 : Act) (w1 : World), xkg (fun xs => (xbL P S st (S.base + S.rows.length + 1) outs (body (S.gen st wr c0.tmps xs)) 0).1.opt) n xs = some r →
   xjs X0 E1 w0 N (S.gen st wr c0.tmps xs) a1 w1 → (∀ k, k < c0.heap.next → E1 k = E k) → xtV (FR rnd) 0 P code Q a1 w1 := by
  intro n
  induction n with
  | zero => intro xs E1 a1 w1 hi; cases hi
  | succ n ih =>
   intro xs E1 a1 w1 hi hg hE1
   refine xky (hbody _ E1 a1 w1 _ hg ?_)
   unfold xkg at hi
   split at hi
   case h_3 => cases hi
   all_goals
    rename_i hstep
    refine xgL (Ψ := Wr (S.gen st wr c0.tmps xs) (xdG code)) (fun x n' hx hw => ?_) _ _ hstep (hwr _)
    obtain ⟨x, c⟩ := x
    intro E2 a2 w2 hE2 hc2 hle hold
    have hstill : ∀ {T : Spec} {us : List U} {st' : List Obj}, (∀ o ∈ st', o ∈ st) → T.match_ P st' (S.base + S.rows.length + 1) c = some us → ∀ o ∈ st', o ∈ c.heap.objs := by
     intro T us st' hsub hm o ho
     obtain ⟨o', h1, h2, h3⟩ := xmh (xs3 hm) o ho
     have h4 := hold o' h1 h3
     rwa [hg.uniq o' h4 o (xxs o (hsub o ho)) h2] at h1
    have htm : x ≠ .ret → ∀ t v, wr.any (Nat.beq t) = false → c0.tmps t = some v → c.tmps t = some v := by
     intro hx t v ht hv
     have ht' : t ∉ wr := fun hm => by rw [xkT.2 hm] at ht; cases ht
     rw [hw hx t (hwrm t ht'), xnv hsin ht', hv]
    have hle' : S.base < c.heap.next := Nat.lt_of_lt_of_le (by rw [xjm]; omega) hle
    obtain ⟨rs, hrs1, hrs2, hS2, hH2⟩ := hc2
    rcases xsW hx with ⟨rfl, us, hm, he⟩ | ⟨hnx, m, y, T, us, hf, hsame, hTb, hm, he⟩
   ·-- the next round
    cases he
    obtain ⟨E3, g1, g2, g3, g4⟩ := xhv (wr := wr) (tm := c0.tmps) hm hH2 hS2 (hstill (fun o h => h) hm) hst2 (fun t v ht hv => ⟨htm (fun e => by cases e) t v ht hv, hlt0 t v hv⟩)
    exact ih _ E3 a2 w2 hi ⟨rs, hrs1, hrs2, g2, g3⟩ (fun k hk => by rw [g1 k (by omega), hE2 k (by rw [xjm]; omega), hE1 k hk])
   ·cases he
   ·cases he
   ·-- out
    cases he
    cases hi
    obtain ⟨hex, hret⟩ := xwM hsame
    have hTs : ∀ o ∈ T.still st, o ∈ st := fun o ho => (List.mem_filter.1 ho).1
    obtain ⟨E3, g1, g2, g3, g4⟩ := xhv (wr := wr) (tm := tmOf y c0.tmps) hm hH2 hS2 (hstill hTs hm) (fun o ho => ⟨by have := (hst2 o (hTs o ho)).1; omega, xa3 (fun k hk => by omega) (hst2 o (hTs o ho)).2⟩) (fun t v ht hv => by
     cases y with
     | ret => cases hv
     | normal => exact ⟨htm (fun e => by have := hret.2 e; cases this) t v ht hv, xg9 (by omega) _ (hlt0 t v hv)⟩
     | exit id => exact ⟨htm (fun e => by have := hret.2 e; cases this) t v ht hv, xg9 (by omega) _ (hlt0 t v hv)⟩)
    have hq := xtH hbrs hf E3 a2 w2 (fun k hk => by rw [g1 k (by omega), hE2 k (by rw [xjm]; omega), hE1 k hk]) ⟨rs, hrs1, hrs2, g2, g3⟩ (by rw [xjm]; omega) (fun o ho hv => by
     rcases g4 o ho with h1 | h1
     ·omega
     ·exact hst0 o (hTs o h1))
    have hq : Q y.toExit a2 w2 := hq
    rw [hex] at hq
    cases x with
    | normal => exact absurd rfl hnx
    | exit id => exact hq
    | ret => exact hq
 obtain ⟨rs, hrs1, hrs2, hS0, hH0⟩ := hc0
 obtain ⟨E3, g1, g2, g3, g4⟩ := xhv (wr := wr) (tm := c0.tmps) hm0 hH0 hS0 hst0 hst2 (fun t v ht hv => ⟨hv, hlt0 t v hv⟩)
 exact key n0 xs0 E3 a w hn0 ⟨rs, hrs1, hrs2, g2, g3⟩ (fun k hk => g1 k (by omega))
theorem xz3 (P : Program) (res wr : List Nat) (body : Cfg → Tree (xdI × Cfg)) (c0 : Cfg) : xh1 P res wr body c0 = .bad ∨ ∃ (S : Spec) (st : List Obj) (outs : List (Nat × xdI × Spec)) (xs0 : List U),
  S.match_ P st (c0.heap.next + 1) c0 = some xs0 ∧ S.base = c0.heap.next ∧ xvq wr S = true ∧ xy5 wr outs = true ∧ (∀ o ∈ st, o ∈ c0.heap.objs) ∧
  xh1 P res wr body c0 = .need (xay (fun xs => (xbL P S st (S.base + S.rows.length + 1) outs (body (S.gen st wr c0.tmps xs)) 0).1.opt) xs0)
    (brs st wr c0.tmps (xaC (fun xs => (xbL P S st (S.base + S.rows.length + 1) outs (body (S.gen st wr c0.tmps xs)) 0).1.opt) xs0) outs) := by
 unfold xh1
 simp only []
 generalize Spec.search P wr c0 body 4 ⟨(xju c0.tmps wr).filter (fun x => !xv6 x.2), [], [], c0.heap.next, []⟩ = S
 generalize xwZ S (S.still c0.heap.objs) (S.base + S.rows.length + 1) res 0 (xlg (body (S.gen (S.still c0.heap.objs) wr c0.tmps []))) = outs
 have hst0 : ∀ o ∈ S.still c0.heap.objs, o ∈ c0.heap.objs := fun o ho => (List.mem_filter.1 ho).1
 generalize S.still c0.heap.objs = st at hst0
 split
 case h_2 => exact .inl rfl
 rename_i xs0 hm0
 split
 case isFalse => exact .inl rfl
 rename_i hcond
 rw [Bool.and_eq_true, Bool.and_eq_true] at hcond
 exact .inr ⟨S, st, outs, xs0, hm0, Nat.eq_of_beq_eq_true hcond.1.1, hcond.1.2, hcond.2, hst0, rfl⟩
theorem xyt {body : Cfg → Tree (xdI × Cfg)} {res wr wrs : List Nat} {LW : List (Nat × Go.Obj) → Act → World → Prop} {Qx : List (Nat × Go.Obj) → Exit → Act → World → Prop}
  {c0 : Cfg} {E0 : Env}
  (hround : ∀ (X1 : List (Nat × Go.Obj)) (c : Cfg) (E : Env) (a : Act) (w : World), xjs X1 E w0 N c a w → (∀ k, k < c0.heap.next → E k = E0 k) → c0.heap.next ≤ c.heap.next → (∀ X2, (body c).holds (xnk X2 w0 E N c (Exit.then (LW X2) (Qx X2)))) → LW X1 a w)
  (hwr : ∀ c, (body c).all (Wr c wrs)) (hwrm : ∀ t, t ∉ wr → t ∉ wrs) {a : Act} {w : World} (hc0 : xjs X0 E0 w0 N c0 a w)
  (h : ∀ X2, (xh1 P res wr body c0).holds (xnk X2 w0 E0 N c0 (Qx X2))) : LW X0 a w := by
 rcases xz3 P res wr body c0 with he | ⟨S, st, outs, xs0, hm0, hbase, hsin, hoin, hst0, he⟩
 ·have := h X0
  rw [he] at this
  exact this.elim
 simp only [he] at h
 have hok := (h X0).1
 have hbrs := fun X2 => (h X2).2
 obtain ⟨n0, hn0⟩ := xmX hok
 generalize hr : xaC (fun xs => (xbL P S st (S.base + S.rows.length + 1) outs (body (S.gen st wr c0.tmps xs)) 0).1.opt) xs0 = r at hbrs hn0
 have hst2 : ∀ o ∈ st, o.key < S.base ∧ xbh (fun k => k < S.base) o.body := fun o ho => by rw [hbase]; exact hc0.lt o (hst0 o ho)
 have hlt0 : ∀ t v, c0.tmps t = some v → AV.lt S.base v := fun t v ht => by rw [hbase]; exact (hc0.point ht).2
 have key : ∀ (n : Nat) (xs : List U) (X1 : List (Nat × Go.Obj)) (E1 : Env) (a1 : Act) (w1 : World), xkg (fun xs => (xbL P S st (S.base + S.rows.length + 1) outs (body (S.gen st wr c0.tmps xs)) 0).1.opt) n xs = some r →
   xjs X1 E1 w0 N (S.gen st wr c0.tmps xs) a1 w1 → (∀ k, k < c0.heap.next → E1 k = E0 k) → LW X1 a1 w1 := by
  intro n
  induction n with
  | zero => intro xs X1 E1 a1 w1 hi; cases hi
  | succ n ih =>
   intro xs X1 E1 a1 w1 hi hg hE1
   refine hround X1 _ E1 a1 w1 hg hE1 (by rw [xjm]; omega) fun X2 => ?_
   unfold xkg at hi
   split at hi
   case h_3 => cases hi
   all_goals
    rename_i hstep
    refine xgL (Ψ := Wr (S.gen st wr c0.tmps xs) wrs) (fun x n' hx hw => ?_) _ _ hstep (hwr _)
    obtain ⟨x, c⟩ := x
    intro E2 a2 w2 hE2 hc2 hle hold
    have hstill : ∀ {T : Spec} {us : List U} {st' : List Obj}, (∀ o ∈ st', o ∈ st) → T.match_ P st' (S.base + S.rows.length + 1) c = some us → ∀ o ∈ st', o ∈ c.heap.objs := by
     intro T us st' hsub hm o ho
     obtain ⟨o', h1, h2, h3⟩ := xmh (xs3 hm) o ho
     have h4 := hold o' h1 h3
     rwa [hg.uniq o' h4 o (xxs o (hsub o ho)) h2] at h1
    have htm : x ≠ .ret → ∀ t v, wr.any (Nat.beq t) = false → c0.tmps t = some v → c.tmps t = some v := by
     intro hx t v ht hv
     have ht' : t ∉ wr := fun hm => by rw [xkT.2 hm] at ht; cases ht
     rw [hw hx t (hwrm t ht'), xnv hsin ht', hv]
    have hle' : S.base < c.heap.next := Nat.lt_of_lt_of_le (by rw [xjm]; omega) hle
    obtain ⟨rs, hrs1, hrs2, hS2, hH2⟩ := hc2
    rcases xsW hx with ⟨rfl, us, hm, he⟩ | ⟨hnx, m, y, T, us, hf, hsame, hTb, hm, he⟩
   ·-- the next round
    cases he
    obtain ⟨E3, g1, g2, g3, g4⟩ := xhv (wr := wr) (tm := c0.tmps) hm hH2 hS2 (hstill (fun o h => h) hm) hst2 (fun t v ht hv => ⟨htm (fun e => by cases e) t v ht hv, hlt0 t v hv⟩)
    exact ih _ X2 E3 a2 w2 hi ⟨rs, hrs1, hrs2, g2, g3⟩ (fun k hk => by rw [g1 k (by omega), hE2 k (by rw [xjm]; omega), hE1 k hk])
   ·cases he
   ·cases he
   ·-- out
    cases he
    cases hi
    obtain ⟨hex, hret⟩ := xwM hsame
    have hTs : ∀ o ∈ T.still st, o ∈ st := fun o ho => (List.mem_filter.1 ho).1
    obtain ⟨E3, g1, g2, g3, g4⟩ := xhv (wr := wr) (tm := tmOf y c0.tmps) hm hH2 hS2 (hstill hTs hm) (fun o ho => ⟨by have := (hst2 o (hTs o ho)).1; omega, xa3 (fun k hk => by omega) (hst2 o (hTs o ho)).2⟩) (fun t v ht hv => by
     cases y with
     | ret => cases hv
     | normal => exact ⟨htm (fun e => by have := hret.2 e; cases this) t v ht hv, xg9 (by omega) _ (hlt0 t v hv)⟩
     | exit id => exact ⟨htm (fun e => by have := hret.2 e; cases this) t v ht hv, xg9 (by omega) _ (hlt0 t v hv)⟩)
    have hq := xtH (hbrs X2) hf E3 a2 w2 (fun k hk => by rw [g1 k (by omega), hE2 k (by rw [xjm]; omega), hE1 k hk]) ⟨rs, hrs1, hrs2, g2, g3⟩ (by rw [xjm]; omega) (fun o ho hv => by
     rcases g4 o ho with h1 | h1
     ·omega
     ·exact hst0 o (hTs o h1))
    have hq : Qx X2 y.toExit a2 w2 := hq
    rw [hex] at hq
    cases x with
    | normal => exact absurd rfl hnx
    | exit id => exact hq
    | ret => exact hq
 obtain ⟨rs, hrs1, hrs2, hS0, hH0⟩ := hc0
 obtain ⟨E3, g1, g2, g3, g4⟩ := xhv (wr := wr) (tm := c0.tmps) hm0 hH0 hS0 hst0 hst2 (fun t v ht hv => ⟨hv, hlt0 t v hv⟩)
 exact key n0 xs0 X0 E3 a w hn0 ⟨rs, hrs1, hrs2, g2, g3⟩ (fun k hk => g1 k (by omega))
end
end Go.Sy
