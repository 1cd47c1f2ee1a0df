/-
 The executor is sound: functions; contracts out of what the executor finds.
-/
import Derived.Test.YtnijhjpaplihbaaGreatSySq
set_option linter.unusedVariables false
namespace Go.Sy
open Go.RowKit
section
variable {P : Program} {Γ : Con} {Ξ : xvf} {X : List (Nat × Go.Obj)} {w0 w : World} {N : Nat} {E : Env} {H : Heap}
theorem xag.filter (h : xag X E w0 H w) (p : Obj → Bool) : xag X E w0 { H with objs := H.objs.filter p } w :=
 h.sub (fun o ho => (List.mem_filter.1 ho).1) (fun o ho => h.lt o (List.mem_filter.1 ho).1)
theorem xag.restrict (h : xag X E w0 H w) (next : Nat) (roots : List Nat) : xag X E w0 (restrict next roots H) w := h.filter _
def xo9 (tmps : Array Value) : ResultVar → Sem Value
 | .tmp t => pure (tmps.getD t undef)
 | .cell x t => do loadVar t (← asAddr (tmps.getD x undef))
theorem xrK {c : Cfg} {a : Act} {D : List Deferred} (hS : xaO E c.heap.next N D (xas c.tmps) a) (hH : xag X E w0 c.heap w) {r : ResultVar} {v : AV} (h : xqt P c r = some v) :
  (xo9 a.tmps r).run P w = .ok (v.den E) w ∧ AV.lt c.heap.next v := by
 have slot : ∀ t v, c.tmps t = some v → a.tmps.getD t undef = v.den E ∧ AV.lt c.heap.next v := fun t v ht => by
  have := hS.ok t
  have e : xas c.tmps t = .is v := by simp [xas, ht]
  rw [e] at this
  exact this
 cases r with
 | tmp t =>
  obtain ⟨h1, h2⟩ := slot t v h
  exact ⟨by simp [xo9, h1], h2⟩
 | cell x t =>
  simp only [xqt] at h
  split at h
  ·rename_i key off hx
   split at h
   ·rename_i k ver own cs ho
    obtain ⟨h1, h2⟩ := slot _ _ hx
    obtain ⟨hm, hkey⟩ := xah ho
    simp only [] at hkey
    subst hkey
    obtain ⟨b, T, e1, hT⟩ := hH.objs _ hm
    simp only [] at e1
    have hb : blk (E k) = b := by rw [e1]; rfl
    exact ⟨by simp [xo9, h1, AV.den, hb, asAddr, xq0 hT h], xi5 h (hH.lt _ hm).2⟩
   ·cases h
  ·cases h
theorem xg2 {c : Cfg} {a : Act} {D : List Deferred} (hS : xaO E c.heap.next N D (xas c.tmps) a) (hH : xag X E w0 c.heap w) : ∀ (rs : List ResultVar) (vs : List AV), xis P c rs = some vs →
  (rs.mapM (xo9 a.tmps)).run P w = .ok (AV.denL E vs) w ∧ AV.ltL c.heap.next vs
 | [], vs, h => by cases h; exact ⟨by simp [AV.denL], trivial⟩
 | r :: rs, vs, h => by
  unfold xis at h
  split at h
  ·rename_i v vs' h1 h2
   cases h
   obtain ⟨e1, l1⟩ := xrK hS hH h1
   obtain ⟨e2, l2⟩ := xg2 hS hH rs vs' h2
   refine ⟨?_, l1, l2⟩
   rw [List.mapM_cons]
   simp only [Sem.run_bind, e1, e2, Result.andThen_ok, Sem.run_pure, AV.denL]
  ·cases h
theorem xo8 {c : Cfg} {a : Act} {D : List Deferred} (hS : xaO E c.heap.next N D (xas c.tmps) a) (hH : xag X E w0 c.heap w) {fn : Func} {vs : List AV} (h : xis P c fn.results.toList = some vs) :
  (results fn a.tmps).run P w = .ok (if h : (AV.denL E vs).toArray.size = 1 then (AV.denL E vs).toArray[0] else .tuple (AV.denL E vs).toArray) w := by
 have := (xg2 hS hH _ _ h).1
 have e : results fn a.tmps = (do
   let vs ← fn.results.mapM (xo9 a.tmps)
   pure (if h : vs.size = 1 then vs[0] else .tuple vs)) := by
  unfold results
  congr 2
 rw [e]
 simp only [Sem.run_bind, Array.mapM_eq_mapM_toList, Sem.run_map, this, Result.andThen_ok, Sem.run_pure]
theorem xro {fn : Func} {tmps : Array Value} {R : Ending → World → Prop} : ∀ (rs : List Nat) (w : World), (∀ r ∈ rs, w0.heap.size ≤ r ∧ ∀ x ∈ X, x.1 ≠ r) → rs.Nodup → xag (xsQ rs X) E w0 H w →
  (∀ w', xag X E w0 H w' → ∃ v, (results fn tmps).run P w' = .ok v w' ∧ R (.returned v) w') → LeavesInM (FR none) 0 P fn tmps R (rs.map mark) .returning w
 | [], w, _, _, hH, hfin => hfin w hH
 | r :: rs, w, hrs, hn, hH, hfin => by
  have hH' : xag ((r, .deferred (some [])) :: xsQ rs X) E w0 H w := hH
  have hp := (hH'.prot (r, .deferred (some [])) List.mem_cons_self).1
  have hn' := List.nodup_cons.1 hn
  refine ⟨by simp, .inl ⟨r, _, rfl, run_takeDeferred hp, ?_⟩⟩
  refine xro rs _ (fun r' hr' => hrs r' (List.mem_cons_of_mem _ hr')) hn'.2 (hH'.putX (hrs r List.mem_cons_self).1 (fun x hx => ?_)).dropX hfin
  rcases List.mem_append.1 hx with hx | hx
  ·obtain ⟨r', hr', rfl⟩ := List.mem_map.1 hx
   exact fun e => hn'.1 (by rw [← show r' = r from e]; exact hr')
  ·exact (hrs r List.mem_cons_self).2 x hx
theorem xja (hΞ : xyQ P Ξ) : ∀ n, xhl P (xat P Γ Ξ n)
 | 0 => fun _ _ _ h => absurd (by simp [xat]) h
 | n + 1 => fun f args H h => by
  unfold xat at h
  split at h
  ·rename_i q hq
   exact (hΞ _ _ _ _ hq).1
  split at h
  ·exact absurd rfl h
  ·rename_i fn hf
   split at h
   ·exact absurd rfl h
   ·rename_i code hb
    split at h
    ·rename_i hc
     exact ⟨fn, hf, hc.1, by rw [hb]; rfl⟩
    ·exact absurd rfl h
theorem xyE (hΓ : xaI P Γ) (hΞ : xyQ P Ξ) {n : Nat} (hcall : xkF P (xat P Γ Ξ n)) (hyld : xuD P (xtl P Γ Ξ n)) : xkF P (xat P Γ Ξ (n + 1)) := by
 intro X w0 f args H E w R hH hargs h
 unfold xat at h
 split at h
 ·rename_i p key e ks L hq
  exact (hΞ _ _ _ _ hq).2 _ hyld X w0 H E w R rfl hH hargs h
 split at h
 ·exact h.elim
 ·rename_i fn hf
  split at h
  ·exact h.elim
  ·rename_i code hb
   split at h
   ·rename_i hc
    refine xnB.1 (callsIn_of_wp_marks (F := FR none) (n := 0) hf hb trivial (xbO (rnd := none) (rb := false) (X0 := X) (w0 := w0) hΓ hcall (xja hΞ n) hyld (fun _ => rfl) code ⟨_, H⟩ E _ w _ ⟨[], (fun _ h => by cases h), List.nodup_nil, ⟨rfl, ?_, fun t => ?_⟩, hH⟩ (xaT (fun x hx => ?_) (xbz h))))
    ·simp [xax]; omega
    ·have hal := (xha _ _).1 hargs
     unfold xas
     by_cases ht : t < args.length
     ·have e1 : args[t]? = some args[t] := List.getElem?_eq_getElem ht
      simp only [e1]
      refine ⟨?_, hal _ (List.getElem_mem ht)⟩
      rw [Array.getD_eq_getD_getElem?, Array.getElem?_append_left (by simp [xax]; exact ht)]
      simp [xax, ht]
     ·have e1 : args[t]? = none := List.getElem?_eq_none (by omega)
      simp only [e1]
      refine ⟨?_, trivial⟩
      rw [Array.getD_eq_getD_getElem?, Array.getElem?_append_right (by simp [xax]; omega), Array.getElem?_replicate]
      split <;> rfl
    ·intro E' a' w' hE hc' hle hold
     obtain ⟨e, c⟩ := x
     obtain ⟨rs, hrs1, hrs2, hS, hH'⟩ := hc'
     have hold : Old H c.heap := hold
     have hle : H.next ≤ c.heap.next := hle
     have fin : ((match xis P c fn.results.toList with
       | some [v] => (match xvy P c.heap.objs c.heap.next v with
        | some x => xw4 [] x.p (.ret (x.v, restrict H.next (AV.keys x.v) (c.heap.eff x)))
        | none => Tree.ret (v, restrict H.next (AV.keys v) c.heap))
       | some vs => Tree.ret (AV.tup vs, restrict H.next (AV.keysL vs) c.heap)
       | none => Tree.bad).holds fun x => ∀ (E' : Env) (w' : World), (∀ k, k < H.next → E' k = E k) → xag X E' w0 x.2 w' → AV.lt x.2.next x.1 → H.next ≤ x.2.next → Old H x.2 → R (.returned (x.1.den E')) w') →
       LeavesInM (FR none) 0 P fn a'.tmps R a'.defers .returning w' := by
      intro h
      rw [hS.defers]
      refine xro rs w' hrs1 hrs2 hH' fun w'' hH2 => ?_
      have holdr : ∀ roots, Old H (restrict H.next roots c.heap) := fun roots o ho hv => hold o (List.mem_filter.1 ho).1 hv
      split at h
      ·rename_i v hv
       refine ⟨_, xo8 hS hH2 hv, ?_⟩
       split at h
       ·rename_i x hx
        have hH2 : xag X E' w0 c.heap w'' := hH2
        have hle : H.next ≤ c.heap.next := hle
        obtain ⟨hn, h⟩ := xoG h
        obtain ⟨f1, f2, f3⟩ := xvx (w := w'') hH2 (fun o ho => Nat.ne_of_lt (hH2.lt o ho).1) hx
        obtain ⟨E2, g1, g2⟩ := f3 (by
         unfold Eff.holds
         cases hp : x.p with
         | none => trivial
         | some p => exact hn p hp)
        have hH3 := hH2.effAt f1 g1 (fun o ho => ⟨.inl (hH2.lt o ho).1, xa3 (fun k hk => .inl hk) (hH2.lt o ho).2⟩) (n' := c.heap.next + x.nk) (Nat.le_add_right _ _) (Nat.le_refl _)
        have hE : ∀ k, k < H.next → E' k = E k := hE
        have f4 : ∀ o ∈ x.add, c.heap.next ≤ o.ver := f1.ver
        have hold : Old H c.heap := hold
        have := h E2 w'' (fun k hk => (g1.agree k (.inl (Nat.lt_of_lt_of_le hk hle))).trans (hE k hk)) (xag.restrict (H := c.heap.eff x) hH3 _ _) (xgk (fun k hk => (hk.elim (fun h => Nat.lt_of_lt_of_le h (Nat.le_add_right _ _)) (fun h => h) : k < c.heap.next + x.nk)) _ f1.val) (Nat.le_trans hle (Nat.le_add_right _ _)) (fun o ho hv => by
         refine hold o ?_ hv
         have ho := (List.mem_filter.1 ho).1
         rcases List.mem_append.1 ho with ho | ho
         ·have := f4 o ho
          omega
         ·exact (List.mem_filter.1 ho).1)
        rw [g2] at this
        simpa [AV.denL] using this
       ·have := h E' w'' hE (hH2.restrict _ _) ((xg2 hS hH2 _ _ hv).2.1) hle (holdr _)
        simpa [AV.denL] using this
      ·rename_i vs hne hv
       refine ⟨_, xo8 hS hH2 hv, ?_⟩
       have := h E' w'' hE (hH2.restrict _ _) ((xg2 hS hH2 _ _ hv).2) hle (holdr _)
       have hlen : ¬ (AV.denL E' vs).toArray.size = 1 := by
        intro hl
        have hl : vs.length = 1 := by simpa [xax] using hl
        match vs, hl with
        | [v], _ => exact hne v rfl
       rw [dif_neg hlen]
       simpa [AV.den] using this
      ·exact h.elim
     cases e with
     | exit id => exact hx.elim
     | normal => exact fin hx
     | ret => exact fin hx
   ·exact h.elim
theorem sound (hΓ : xaI P Γ) (hΞ : xyQ P Ξ) : ∀ n, xkF P (xat P Γ Ξ n) ∧ xuD P (xtl P Γ Ξ n)
 | 0 => ⟨fun _ _ _ _ _ _ _ _ _ _ h => (by simp [xat] at h; exact h.elim), fun _ _ _ _ _ _ _ _ _ _ _ h => (by simp [xtl] at h; exact h.elim)⟩
 | n + 1 => by
  obtain ⟨h1, h2⟩ := sound hΓ hΞ n
  refine ⟨xyE hΓ hΞ h1 h2, ?_⟩
  have := xtm hΓ h1 (xja hΞ n) h2
  intro X w0 key args H E w R hH hk ha h
  unfold xtl at h
  exact this X w0 key args H E w R hH hk ha h
theorem xwq (hΓ : xaI P Γ) (hΞ : xyQ P Ξ) (n : Nat) : xkF P (xat P Γ Ξ n) := (sound hΓ hΞ n).1
def xqO (as : List AV) (os : List Obj) : Spec := ⟨as.zipIdx.map fun x => (x.2, x.1), os, [], os.length, []⟩
def ext (P : Program) (Γ : Con) (F : FuncId) (as : List AV) (os : List Obj) (eff : List U → Option Eff) : Con := fun f args objs =>
 if Nat.beq f F then
  if Nat.beq args.length as.length && Nat.beq objs.length os.length then
   match (xqO as os).match_ P [] 1 ⟨fun t => args[t]?, ⟨frozen objs, objs.length⟩⟩ with
   | some us => eff us
   | none => none
  else none
 else Γ f args objs
theorem xzk (us : List U) : ∀ (as : List AV) (i j : Nat), xbq us ((as.zipIdx i).map fun x => (x.2, x.1)) j = (((xe2 us as j).1.zipIdx i).map fun x => (x.2, x.1), (xe2 us as j).2)
 | [], _, _ => rfl
 | a :: r, i, j => by
  have ih := xzk us r (i + 1) (xhb us a j).2
  have e1 : xbq us (((a :: r).zipIdx i).map fun x => (x.2, x.1)) j = ((i, (xhb us a j).1) :: (xbq us ((r.zipIdx (i + 1)).map fun x => (x.2, x.1)) (xhb us a j).2).1, (xbq us ((r.zipIdx (i + 1)).map fun x => (x.2, x.1)) (xhb us a j).2).2) := rfl
  have e2 : xe2 us (a :: r) j = ((xhb us a j).1 :: (xe2 us r (xhb us a j).2).1, (xe2 us r (xhb us a j).2).2) := rfl
  rw [e1, ih, e2]
  rfl
theorem xm4 (us : List U) : ∀ (as : List AV) (j : Nat), (xe2 us as j).1.length = as.length
 | [], _ => rfl
 | a :: r, j => by
  show ((xhb us a j).1 :: (xe2 us r (xhb us a j).2).1).length = _
  simp [xm4 us r]
theorem xuU : ∀ (l : List AV) (i t : Nat), xgO (i + t) ((l.zipIdx i).map fun x => (x.2, x.1)) = l[t]?
 | [], _, _ => rfl
 | a :: r, i, 0 => by
  show (if Nat.beq (i + 0) i then some a else _) = _
  rw [Nat.add_zero, xdM]; rfl
 | a :: r, i, t + 1 => by
  show (if Nat.beq (i + (t + 1)) i then some a else xgO (i + (t + 1)) ((r.zipIdx (i + 1)).map fun x => (x.2, x.1))) = _
  rw [xil (by omega), show i + (t + 1) = i + 1 + t by omega, xuU r (i + 1) t]
  simp
mutual
theorem xz5 (us : List U) : ∀ (v : AV) (j : Nat), AV.keys (xhb us v j).1 = AV.keys v
 | .bool _, _ => rfl
 | .int _ _, _ => rfl
 | .fn f a b, j => by
  show AV.keysL (xe2 us a j).1 ++ AV.keysL (xe2 us b (xe2 us a j).2).1 = AV.keysL a ++ AV.keysL b
  rw [xjB us a, xjB us b]
 | .agg cs, j => xjB us cs j
 | .tup cs, j => xjB us cs j
 | .ptr _ _, _ => rfl
 | .val _, _ => rfl
 | .sl _, _ => rfl
 | .ix _ _ _ _ _, _ => rfl
 | .vw _ _ _ _, _ => rfl
 | .yl _, _ => rfl
theorem xjB (us : List U) : ∀ (l : List AV) (j : Nat), AV.keysL (xe2 us l j).1 = AV.keysL l
 | [], _ => rfl
 | a :: r, j => by
  show AV.keys (xhb us a j).1 ++ AV.keysL (xe2 us r (xhb us a j).2).1 = AV.keys a ++ AV.keysL r
  rw [xz5 us a, xjB us r]
end
theorem xpH (ver : Nat) (us : List U) : ∀ (os : List Obj) (j : Nat), ∀ o ∈ (xbQ ver us os j).1, ∃ s ∈ os, o.key = s.key ∧ xbG o.body = xbG s.body
 | [], _, o, h => by cases h
 | s :: r, j, o, h => by
  have e : (xbQ ver us (s :: r) j).1 = ⟨s.key, ver, s.own, (xjV us s.body j).1⟩ :: (xbQ ver us r (xjV us s.body j).2).1 := rfl
  rw [e] at h
  rcases List.mem_cons.1 h with rfl | h
  ·refine ⟨s, by simp, rfl, ?_⟩
   show xbG (xjV us s.body j).1 = _
   cases s.body <;> rfl
  ·obtain ⟨s', h1, h2⟩ := xpH ver us r _ o h
   exact ⟨s', by simp [h1], h2⟩
theorem xvb : ∀ l : List Nat, ∃ M, ∀ k ∈ l, k < M
 | [] => ⟨0, fun k h => by cases h⟩
 | a :: r => by
  obtain ⟨M, hM⟩ := xvb r
  refine ⟨M + a + 1, fun k hk => ?_⟩
  rcases List.mem_cons.1 hk with rfl | hk
  ·omega
  ·have := hM k hk; omega
theorem xad (hΞ : xyQ P Ξ) (hΓ : xaI P Γ) {n : Nat} {F : FuncId} {as : List AV} {os : List Obj} {eff : List U → Option Eff} (hflat : os.all (fun o => xbG o.body && Nat.blt o.key os.length) = true)
  (hargs : (AV.keysL as).all (fun k => Nat.blt k os.length) = true)
  (hcol : ∀ us x, eff us = some x → ∃ p, xae P os.length (xat P Γ Ξ n F (xe2 us as 0).1 ⟨(xbQ os.length us os (xe2 us as 0).2).1, os.length⟩) = some { x with p := p } ∧ (x.holds → Eff.holds { x with p := p })) : xaI P (ext P Γ F as os eff) := by
 intro f args objs x h
 unfold ext at h
 split at h
 case isFalse => exact hΓ f args objs x h
 rename_i hf
 have hf : f = F := Nat.eq_of_beq_eq_true hf
 subst hf
 split at h
 case isFalse => cases h
 rename_i hl
 rw [Bool.and_eq_true] at hl
 have hl1 : args.length = as.length := Nat.eq_of_beq_eq_true hl.1
 have hl2 : objs.length = os.length := Nat.eq_of_beq_eq_true hl.2
 split at h
 case h_2 => cases h
 rename_i us hm
 obtain ⟨p0, hc, hph⟩ := hcol us x h
 have hfun : xe5 P f := xja hΞ n f (xe2 us as 0).1 _ fun e => (by rw [e] at hc; cases hc)
 obtain ⟨hwf0, hfit0⟩ := xdd hc
 unfold xBU
 rw [hl2]
 have hwf : xke os.length x := ⟨hwf0.rm, hwf0.key, hwf0.uniq, hwf0.flat, hwf0.val, hwf0.ver⟩
 have hfit : x.holds → (xat P Γ Ξ n f (xe2 us as 0).1 ⟨(xbQ os.length us os (xe2 us as 0).2).1, os.length⟩).holds (Fits os.length x) := fun hp => hfit0 (hph hp)
 refine ⟨fun _ => ⟨hfun, hwf, fun hp E w hpre => ?_⟩, fun hne => absurd hwf.rm hne⟩
 obtain ⟨M, hM⟩ := xvb (AV.keysL args ++ objs.map (fun o => o.key))
 have hmem : ∀ o ∈ Sy.frozen objs, ∃ o' ∈ objs, o = { o' with own := false, body := xAq o'.body } := fun o ho => by
  obtain ⟨o', ho', rfl⟩ := List.mem_map.1 ho
  exact ⟨o', ho', rfl⟩
 have hH : xag [] E w ⟨Sy.frozen objs, M⟩ w := by
  refine ⟨Blw.refl _ _, hpre.env, ?_, ?_, ?_, ?_, ?_, ?_, ?_, ?_, ?_⟩
  ·intro o ho; obtain ⟨o', ho', rfl⟩ := hmem o ho
   have := (hpre.rows o' ho').1
   obtain ⟨k, v, own, b⟩ := o'
   cases b <;> first | exact this | exact this.2
  ·intro o ho hown; obtain ⟨o', ho', rfl⟩ := hmem o ho; cases hown
  ·intro o ho o2 ho2 hown; obtain ⟨o', ho', rfl⟩ := hmem o ho; cases hown
  ·intro o ho o2 ho2 hk
   obtain ⟨o', ho', rfl⟩ := hmem o ho
   obtain ⟨o2', ho2', rfl⟩ := hmem o2 ho2
   rw [hpre.uniq o' ho' o2' ho2' hk]
  ·intro o ho
   obtain ⟨o', ho', rfl⟩ := hmem o ho
   exact ⟨hM _ (List.mem_append.2 (.inr (List.mem_map.2 ⟨o', ho', rfl⟩))), by
    have := xkE (p := fun k => k < M) (hpre.rows o' ho').2.1
    obtain ⟨k, v, own, b⟩ := o'
    cases b <;> exact this⟩
  ·intro y hy; cases hy
  ·intro o ho b hb o2 ho2 hown; obtain ⟨o', ho', rfl⟩ := hmem o2 ho2; cases hown
  ·intro y hy; cases hy
  ·intro o ho b hb
   obtain ⟨o', ho', rfl⟩ := hmem o ho
   rcases hb with ⟨h1, _⟩ | ⟨h1, _⟩
   ·obtain ⟨k, v, own, bd⟩ := o'
    cases bd <;> cases h1
   ·cases h1
 have hS : xaO E M 0 [] (xas fun t => args[t]?) { tmps := (AV.denL E args).toArray, defers := [] } := by
  refine ⟨rfl, Nat.zero_le _, fun t => ?_⟩
  cases ht : args[t]? with
  | none =>
   have e : xas (fun t => args[t]?) t = .junk := by simp [xas, ht]
   rw [e]; trivial
  | some v =>
   have e : xas (fun t => args[t]?) t = .is v := by simp [xas, ht]
   rw [e]
   refine ⟨?_, (xha _ _).1 ((xeg _).2 fun k hk => hM k (List.mem_append.2 (.inl hk))) v (List.mem_of_getElem? ht)⟩
   rw [Array.getD_eq_getD_getElem?]
   simp [xax, ht]
 have hm' : (xqO as os).match_ P [] 1 ⟨fun t => args[t]?, ⟨Sy.frozen objs, M⟩⟩ = some us := hm
 obtain ⟨E2, g1, g2, g3, g4⟩ := xhv (wr := []) (tm := fun _ => none) hm' hH hS (fun o ho => by cases ho) (fun o ho => by cases ho) (fun t v _ hv => by cases hv)
 have hz := xzk us as 0 0
 have hgs : ∀ t v, (xe2 us as 0).1[t]? = some v → ((xqO as os).gen [] [] (fun _ => none) us).tmps t = some v := by
  intro t v ht
  have e : ((xqO as os).gen [] [] (fun _ => none) us).tmps t = (match xgO t (xbq us (as.zipIdx.map fun x => (x.2, x.1)) 0).1 with | some v => some v | none => if ([] : List Nat).any (Nat.beq t) then none else none) := rfl
  rw [e, hz]
  have := xuU (xe2 us as 0).1 0 t
  rw [Nat.zero_add] at this
  rw [this, ht]
 have hden : AV.denL E2 (xe2 us as 0).1 = AV.denL E args := by
  apply List.ext_getElem?
  intro t
  rw [xax, xax, List.getElem?_map, List.getElem?_map]
  cases ht : (xe2 us as 0).1[t]? with
  | none =>
   have h1 := List.getElem?_eq_none_iff.1 ht
   rw [xm4] at h1
   rw [List.getElem?_eq_none (by omega)]
   rfl
  | some v =>
   have h1 := (List.getElem?_eq_some_iff.1 ht).1
   rw [xm4] at h1
   have hpt := g2.ok t
   have e : xas ((xqO as os).gen [] [] (fun _ => none) us).tmps t = .is v := by simp [xas, hgs t v ht]
   rw [e] at hpt
   have h2 : args[t]? = some args[t] := List.getElem?_eq_getElem (by omega)
   rw [h2]
   have h3 := hpt.1
   simp only [Array.getD_eq_getD_getElem?, xax] at h3
   simp only [List.getElem?_toArray, List.getElem?_map, h2, Option.map_some, Option.getD_some] at h3
   simp only [Option.map_some, h3]
 have hHc : xag [] E2 w ⟨(xbQ os.length us os (xe2 us as 0).2).1, os.length⟩ w := by
  refine g3.sub (fun o ho => ?_) (fun o ho => ?_)
  ·have e : ((xqO as os).gen [] [] (fun _ => none) us).heap.objs = (xbQ os.length us os (xbq us (as.zipIdx.map fun x => (x.2, x.1)) 0).2).1 ++ [] ++ [] := rfl
   rw [e, hz, List.append_nil, List.append_nil]
   exact ho
  ·obtain ⟨s, h1, h2, h3⟩ := xpH _ _ _ _ o ho
   have h4 := List.all_eq_true.1 hflat s h1
   rw [Bool.and_eq_true] at h4
   exact ⟨by rw [h2]; simpa using h4.2, xkE (by rw [h3]; exact h4.1)⟩
 rw [← hden]
 refine xwq hΓ hΞ n [] w f _ _ E2 w _ hHc ((xeg _).2 fun k hk => ?_) (xaT (fun y hy => ?_) (hfit hp))
 ·rw [xjB] at hk
  simpa using List.all_eq_true.1 hargs k hk
 ·intro E1 w' hE hH' _ _ _
  obtain ⟨E', e1, e2, e3, e4, e5, e6, e7, e8⟩ := hy [] E1 w w' hH'
  exact ⟨E', by rw [e3], fun k hk => by rw [e1 k hk, hE k hk]; exact g1 k hk, e2, hH'.below, e4, e5, e6, e7, e8⟩
end
end Go.Sy
