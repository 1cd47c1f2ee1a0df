/-
 The executor is sound: rounds, functions.
-/
import Derived.Test.YtnijhjpaplihbaaGreatSyY
set_option linter.unusedVariables false
namespace Go.Sy
open Go.RowKit
section
variable {P : Program} {Γ : Con} {call : xie} {yld : Nat → List AV → Heap → Tree (AV × Heap)} {X X0 : List (Nat × Go.Obj)} {w0 w : World} {N : Nat} {D : List Deferred} {rnd : Option Nat} {E : Env} {H : Heap}
theorem xri {n : Nat} : ∀ (ps : List Nat) (vs : List AV) (tm : Nat → Option AV) (tmps : Array Value), ps.length = vs.length → (∀ p ∈ ps, p < N) → N ≤ tmps.size → (∀ t v, tm t = some v → tmps.getD t undef = v.den E ∧ AV.lt n v) → AV.ltL n vs →
  N ≤ ((ps.zip (AV.denL E vs)).foldl (fun (tmps : Array Value) (x : Nat × Value) => tmps.setIfInBounds x.1 x.2) tmps).size ∧
  ∀ t v, xiQ ps vs tm t = some v → ((ps.zip (AV.denL E vs)).foldl (fun (tmps : Array Value) (x : Nat × Value) => tmps.setIfInBounds x.1 x.2) tmps).getD t undef = v.den E ∧ AV.lt n v
 | [], [], tm, tmps, _, _, hs, ht, _ => ⟨hs, ht⟩
 | p :: ps, u :: vs, tm, tmps, hl, hp, hs, ht, hv => by
  have hp0 := hp p (by simp)
  refine xri ps vs (upd tm p (some u)) (tmps.setIfInBounds p (u.den E)) (by simpa using hl) (fun q hq => hp q (by simp [hq])) (by simpa using hs) (fun t v htv => ?_) hv.2
  by_cases h : t = p
  ·subst h
   rw [xgl] at htv
   cases htv
   refine ⟨?_, hv.1⟩
   rw [Array.getD_eq_getD_getElem?, Array.getElem?_setIfInBounds, if_pos rfl, if_pos (by omega)]
   rfl
  ·rw [xgz _ _ h] at htv
   rw [Array.getD_eq_getD_getElem?, Array.getElem?_setIfInBounds, if_neg (fun e => h e.symm), ← Array.getD_eq_getD_getElem?]
   exact ht t v htv
 | [], _ :: _, _, _, hl, _, _, _, _ => by simp at hl
 | _ :: _, [], _, _, hl, _, _, _, _ => by simp at hl
theorem xag.putXA {A : List (Nat × Go.Obj)} {l : Nat} {o0 o : Go.Obj} (h : xag (A ++ (l, o0) :: X) E w0 H w) (hl : w0.heap.size ≤ l) (hA : ∀ x ∈ A, x.1 ≠ l) (hX : ∀ x ∈ X, x.1 ≠ l) : xag (A ++ (l, o) :: X) E w0 H (w.putObj l o) := by
 obtain ⟨p1, p2⟩ := h.prot (l, o0) (List.mem_append.2 (.inr (by simp)))
 have h1 : xag (A ++ X) E w0 H w := ⟨h.below, h.env, h.objs, h.high, h.inj, h.uniq, h.lt, fun x hx => h.prot x (by
  rcases List.mem_append.1 hx with hx | hx
  ·exact List.mem_append.2 (.inl hx)
  ·exact List.mem_append.2 (.inr (List.mem_cons_of_mem _ hx))), h.deep, fun x hx => h.protD x (by
  rcases List.mem_append.1 hx with hx | hx
  ·exact List.mem_append.2 (.inl hx)
  ·exact List.mem_append.2 (.inr (List.mem_cons_of_mem _ hx))), h.fsh⟩
 have p3 : ∀ o' ∈ H.objs, ¬ Inn E w o'.key o'.body l := h.protD (l, o0) (List.mem_append.2 (.inr (by simp)))
 have h2 := (h1.put (o := o) hl (fun x hx => by
  rcases List.mem_append.1 hx with hx | hx
  ·exact hA x hx
  ·exact hX x hx) p2 p3).addX (World.putObj_heap_same (Array.getElem?_eq_some_iff.1 p1).1) p2 (fun o' ho' hi => p3 o' ho' (xjl (h.objs o' ho') rfl (fun g hg => World.putObj_heap_other (fun e => p2 o' ho' (by rw [hg, e]))) hi))
 exact ⟨h2.below, h2.env, h2.objs, h2.high, h2.inj, h2.uniq, h2.lt, fun x hx => h2.prot x (by
  rcases List.mem_append.1 hx with hx | hx
  ·exact List.mem_cons_of_mem _ (List.mem_append.2 (.inl hx))
  ·rcases List.mem_cons.1 hx with rfl | hx
   ·exact List.mem_cons_self
   ·exact List.mem_cons_of_mem _ (List.mem_append.2 (.inr hx))), h2.deep, fun x hx => h2.protD x (by
  rcases List.mem_append.1 hx with hx | hx
  ·exact List.mem_cons_of_mem _ (List.mem_append.2 (.inl hx))
  ·rcases List.mem_cons.1 hx with rfl | hx
   ·exact List.mem_cons_self
   ·exact List.mem_cons_of_mem _ (List.mem_append.2 (.inr hx))), h2.fsh⟩
theorem xkR {v : AV} {o : Obj} {Φ : AV × Heap → Prop} (h : (xr9 v o H).holds Φ) : (∀ o' ∈ H.objs, o'.key ≠ o.key) ∧ Φ (v, ⟨o :: H.objs, H.next⟩) := by
 unfold xr9 at h
 split at h
 ·exact h.elim
 ·rename_i hk
  exact ⟨xxq (by simpa using hk), h⟩
theorem xtm (hΓ : xaI P Γ) (hcall : xkF P call) (hk : xhl P call) (hyld : xuD P yld) : xuD P (xtn P Γ call yld) := by
 intro X w0 key args H E w R hH hkey hargs h
 unfold xtn at h
 split at h
 case h_2 => exact h.elim
 rename_i k' ver N tm params assign body hfind
 split at h
 case isFalse => exact h.elim
 rename_i hc
 obtain ⟨hlen, hpar⟩ := hc
 obtain ⟨hm, hkk⟩ := xah hfind
 simp only [] at hkk
 subst hkk
 obtain ⟨l, fn, tmps, dfr, q1, q2, q3, q4⟩ := hH.objs _ hm
 simp only [] at q1
 have q2 : w.heap[l]? = some (.loop { state := .ready, pending := none, fn := fn, tmps := tmps, params := params, assign := assign, body := body, defers := dfr }) := q2
 have hblk : blk (E k') = l := by rw [q1]; rfl
 rw [hblk]
 have htm : ∀ t v, tm t = some v → AV.lt H.next v := (hH.lt _ hm).2
 obtain ⟨g1, g2, g3⟩ := hH.hide hm rfl (l := l) (by simp only []; rw [q1]; rfl) q2
 refine ⟨fn, _, assign, body, run_yield q2 (by simp [xax, hlen]), ?_⟩
 obtain ⟨s1, s2⟩ := xri (N := N) (E := E) (n := H.next) params.toList args tm tmps (by simp [hlen]) (fun p hp => by simpa using List.all_eq_true.1 hpar p hp) q3 (fun t v ht => ⟨q4 t v ht, htm t v ht⟩) hargs
 have hfold : (params.zip (AV.denL E args).toArray).foldl (fun (tmps : Array Value) (x : Nat × Value) => tmps.setIfInBounds x.1 x.2) tmps = (params.toList.zip (AV.denL E args)).foldl (fun (tmps : Array Value) (x : Nat × Value) => tmps.setIfInBounds x.1 x.2) tmps := by
  rw [← Array.foldl_toList, Array.toList_zip]
 refine roundIn_of_wpIn (F := FR none) trivial ?_
 show assign.wpIn (FR (some l)) 0 P _ _ w
 refine xbO (rnd := some l) (rb := true) (X0 := (l, .loop { state := .ready, pending := none, fn := fn, tmps := tmps, params := params, assign := assign, body := body, defers := dfr }) :: X) (w0 := w0) (N := N) hΓ hcall hk hyld (fun e => by cases e) assign ⟨xiQ params.toList args tm, xwl k' H⟩ E _ w _ ⟨[], (fun r hr => by cases hr), List.nodup_nil, ⟨rfl, ?_, fun t => ?_⟩, g1⟩ (xaT (fun x hx => ?_) (xbz h))
 ·show N ≤ Array.size (Array.foldl _ tmps (params.zip _))
  exact hfold ▸ s1
 ·show xrA E H.next _ t (xas (xiQ params.toList args tm) t)
  cases ht : xiQ params.toList args tm t with
  | none =>
   have e : xas (xiQ params.toList args tm) t = .junk := by simp [xas, ht]
   rw [e]; trivial
  | some v =>
   have e : xas (xiQ params.toList args tm) t = .is v := by simp [xas, ht]
   rw [e]
   obtain ⟨r1, r2⟩ := s2 t v ht
   refine ⟨?_, r2⟩
   show Array.getD (Array.foldl _ tmps (params.zip _)) t undef = _
   exact hfold ▸ r1
 intro E1 a1 w1 hE1 hc1 hle1 hold1
 obtain ⟨x, c1⟩ := x
 cases x with
 | exit id => exact hx.elim
 | ret => exact hx.elim
 | normal =>
  obtain ⟨rs, hrs1, hrs2, hS1, hH1⟩ := hc1
  have hp1 := (hH1.prot (l, _) (List.mem_append.2 (.inr (List.mem_cons_self)))).1
  refine ⟨_, run_beginRound hp1 rfl, ?_⟩
  have hrl : ∀ r ∈ rs, r ≠ l := fun r hr e => (hrs1 r hr).2 (l, _) List.mem_cons_self e.symm
  have hH2 := hH1.putXA (A := rs.map (fun r => (r, Go.Obj.deferred (some [])))) (o := .loop { state := .busy, pending := none, fn := fn, tmps := tmps, params := params, assign := assign, body := body, defers := dfr }) g2 (fun x hx => by
   obtain ⟨r, hr, rfl⟩ := List.mem_map.1 hx
   exact hrl r hr) g3
  refine xbO (rnd := some l) (rb := true) (X0 := (l, .loop { state := .busy, pending := none, fn := fn, tmps := tmps, params := params, assign := assign, body := body, defers := dfr }) :: X) (w0 := w0) (N := N) hΓ hcall hk hyld (fun e => by cases e) body c1 E1 a1 _ _ ⟨rs, fun r hr => ⟨(hrs1 r hr).1, fun x hx => ?_⟩, hrs2, hS1, hH2⟩ (xaT (fun y hy => ?_) (xbz hx))
  ·rcases List.mem_cons.1 hx with rfl | hx
   ·exact fun e => hrl r hr e.symm
   ·exact (hrs1 r hr).2 x (List.mem_cons_of_mem _ hx)
  obtain ⟨y, c2⟩ := y
  intro E2 a2 w3 hE2 hc2 hle2 hold2
  obtain ⟨rs', _, _, _, hH3'⟩ := hc2
  have hH3 : xag ((l, .loop { state := .busy, pending := none, fn := fn, tmps := tmps, params := params, assign := assign, body := body, defers := dfr }) :: X) E2 w0 c2.heap w3 := hH3'.dropXs
  have hp3 := (hH3.prot (l, _) List.mem_cons_self).1
  have hle1 : H.next ≤ c1.heap.next := hle1
  have hle2 : c1.heap.next ≤ c2.heap.next := hle2
  have hEE : ∀ k, k < H.next → E2 k = E k := fun k hk => by rw [hE2 k (Nat.lt_of_lt_of_le hk hle1)]; exact hE1 k hk
  have hkl : E2 k' = .pointer (some ⟨l, 0, none⟩) := by rw [hEE k' hkey]; exact q1
  have hl3 : l < w3.heap.size := (Array.getElem?_eq_some_iff.1 hp3).1
  have holdA : ∀ o ∈ c2.heap.objs, o.ver < H.next → o ∈ H.objs := fun o ho hv => (List.mem_filter.1 (hold1 o (hold2 o ho (Nat.lt_of_lt_of_le hv hle1)) hv)).1
  have back : ∀ (st : Nat) (pend : Option Code) (ver2 : Nat) (ls : LoopState) (jump : Option Code) (rb : Bool), stOf st = ls → (∀ o' ∈ c2.heap.objs, o'.key ≠ k') → pend = jump →
    xag X E2 w0 ⟨⟨k', ver2, true, .loop st pend N tm params assign body⟩ :: c2.heap.objs, c2.heap.next⟩ (w3.putObj l (.loop { state := ls, pending := jump, fn := fn, tmps := tmps, params := params, assign := assign, body := body, defers := dfr })) := by
   intro st pend ver2 ls jump rb hst hno hpj
   subst hpj
   refine (hH3.putX (o := .loop { state := ls, pending := pend, fn := fn, tmps := tmps, params := params, assign := assign, body := body, defers := dfr }) g2 g3).show_ g2 g3 hkl ?_ (by omega) ?_ hno
   ·refine ⟨l, fn, tmps, dfr, hkl, ?_, q3, fun t v ht => ?_⟩
    ·rw [hst]; exact World.putObj_heap_same hl3
    ·rw [xj8 hEE v (htm t v ht)]; exact q4 t v ht
   ·intro t v ht
    exact xg9 (by omega) v (htm t v ht)
  have backF : ∀ (ver2 : Nat) (jump : Option Code), (∀ o' ∈ c2.heap.objs, o'.key ≠ k') →
    xag X E2 w0 ⟨⟨k', ver2, true, .fin 2 jump⟩ :: c2.heap.objs, c2.heap.next⟩ (w3.putObj l (.loop { state := .done, pending := jump, fn := fn, tmps := tmps, params := params, assign := assign, body := body, defers := dfr })) := by
   intro ver2 jump hno
   refine (hH3.putX (o := .loop { state := .done, pending := jump, fn := fn, tmps := tmps, params := params, assign := assign, body := body, defers := dfr }) g2 g3).show_ g2 g3 hkl ?_ (by omega) ?_ hno
   ·exact ⟨l, _, hkl, World.putObj_heap_same hl3, rfl, rfl⟩
   ·trivial
  cases y with
  | normal =>
   obtain ⟨hno, hΦ⟩ := xkR hy
   have hΦ := hΦ E2 _ hEE (back 0 none ver .ready none true rfl hno rfl) trivial (Nat.le_trans hle1 hle2) (fun o ho hv => by
    rcases List.mem_cons.1 ho with rfl | ho
    ·exact hm
    ·exact holdA o ho hv)
   exact ⟨_, _, run_endRound none hp3, hΦ⟩
  | exit id =>
   obtain ⟨hno, hΦ⟩ := xkR hy
   have hΦ := hΦ E2 _ hEE (backF c2.heap.next (some (.exit id)) hno) trivial (Nat.le_trans hle1 hle2) (fun o ho hv => by
    rcases List.mem_cons.1 ho with rfl | ho
    ·have : c2.heap.next < H.next := hv
     omega
    ·exact holdA o ho hv)
   exact ⟨_, _, run_endRound (some (.exit id)) hp3, hΦ⟩
  | ret =>
   obtain ⟨hno, hΦ⟩ := xkR hy
   have hΦ := hΦ E2 _ hEE (backF c2.heap.next (some .ret) hno) trivial (Nat.le_trans hle1 hle2) (fun o ho hv => by
    rcases List.mem_cons.1 ho with rfl | ho
    ·have : c2.heap.next < H.next := hv
     omega
    ·exact holdA o ho hv)
   exact ⟨_, _, run_endRound (some .ret) hp3, hΦ⟩
end
end Go.Sy
