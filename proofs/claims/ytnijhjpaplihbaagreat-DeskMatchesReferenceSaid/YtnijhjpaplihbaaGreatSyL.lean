/-
 The executor is sound: a tree of results as one result; calls by contract.
-/
import Derived.Test.YtnijhjpaplihbaaGreatSyK
set_option linter.unusedVariables false
namespace Go.Sy
open Go.RowKit
section
variable {P : Program} {X : List (Nat × Go.Obj)} {E : Env} {w0 w : World} {objs : List Obj} {n K : Nat}
def Fits (K : Nat) (x : Eff) (y : AV × Heap) : Prop :=
 ∀ (X : List (Nat × Go.Obj)) (E1 : Env) (w0 w' : World), xag X E1 w0 y.2 w' → ∃ E' : Env, (∀ k, k < K → E' k = E1 k) ∧ (∀ k, (E' k).oneCell' = true) ∧ x.v.den E' = y.1.den E1 ∧
  (∀ o ∈ x.add, xbi E' w' o.key o.own o.body) ∧ (∀ o ∈ x.add, ∀ b, blkO (E' o.key) = some b → w0.heap.size ≤ b) ∧
  (∀ o ∈ x.add, ∀ o' ∈ x.add, o.own = true → o.key ≠ o'.key → ∀ b, blkO (E' o.key) = some b → blkO (E' o'.key) ≠ some b) ∧
  (∀ o ∈ x.add, ∀ b, Inn E' w' o.key o.body b → w0.heap.size ≤ b) ∧
  (∀ o ∈ x.add, ∀ b, Inn E' w' o.key o.body b → ∀ o' ∈ x.add, o'.own = true → blkO (E' o'.key) ≠ some b)
theorem xqw {E1 : Env} {H : Heap} {w' : World} (hH : xag X E1 w0 H w') : ∀ (acc : List (Option Nat)) (i : Nat) (add : List Obj), xmP P K H.objs i acc = some add →
  ∀ o ∈ add, ∃ j c, acc[j]? = some c ∧ o.key = K + (i + j) ∧ o.ver = K ∧ xbG o.body = true ∧
   (∀ E' : Env, E' o.key = xfp E1 c → xbi E' w' o.key o.own o.body) ∧ (∀ b, blkO (xfp E1 c) = some b → w0.heap.size ≤ b) ∧
   (∀ k, c = some k → ∃ ob ∈ H.objs, ob.key = k ∧ (o.own = true → ob.own = true) ∧ ∀ e ks l, o.body = .nst e ks l → ob.body = .nst e ks l ∧ ob.own = true) ∧ (c = none → o.body = .nil)
 | [], i, add, h => by cases h; simp
 | none :: r, i, add, h => by
  unfold xmP at h
  cases hr : xmP P K H.objs (i + 1) r with
  | none => rw [hr] at h; cases h
  | some add' =>
   rw [hr] at h
   cases h
   intro o ho
   rcases List.mem_cons.1 ho with rfl | ho
   ·exact ⟨0, none, rfl, rfl, rfl, rfl, fun E' hE => hE, fun b hb => (by cases hb), fun k hk => (by cases hk), fun _ => rfl⟩
   ·obtain ⟨j, c, h1, h2, h3⟩ := xqw hH r (i + 1) add' hr o ho
    exact ⟨j + 1, c, by simpa using h1, by rw [h2]; omega, h3⟩
 | some k :: r, i, add, h => by
  have key : ∀ (ow : Bool) (b : Body), xbG b = true → (∀ E' : Env, E' (K + i) = E1 k → xbi E' w' (K + i) ow b) → (∀ g, blkO (E1 k) = some g → w0.heap.size ≤ g) →
    (∃ ob ∈ H.objs, ob.key = k ∧ (ow = true → ob.own = true) ∧ ∀ e ks l, b = .nst e ks l → ob.body = .nst e ks l ∧ ob.own = true) →
    ((xmP P K H.objs (i + 1) r).map ((⟨K + i, K, ow, b⟩ : Obj) :: ·)) = some add → ∀ o ∈ add, ∃ j c, (some k :: r)[j]? = some c ∧ o.key = K + (i + j) ∧ o.ver = K ∧ xbG o.body = true ∧
   (∀ E' : Env, E' o.key = xfp E1 c → xbi E' w' o.key o.own o.body) ∧ (∀ b, blkO (xfp E1 c) = some b → w0.heap.size ≤ b) ∧
   (∀ k, c = some k → ∃ ob ∈ H.objs, ob.key = k ∧ (o.own = true → ob.own = true) ∧ ∀ e ks l, o.body = .nst e ks l → ob.body = .nst e ks l ∧ ob.own = true) ∧ (c = none → o.body = .nil) := by
   intro ow b h1 h2 h3 h4 h
   cases hr : xmP P K H.objs (i + 1) r with
   | none => rw [hr] at h; cases h
   | some add' =>
    rw [hr] at h
    cases h
    intro o ho
    rcases List.mem_cons.1 ho with rfl | ho
    ·exact ⟨0, some k, rfl, rfl, rfl, h1, fun E' hE => h2 E' hE, h3, fun k' hk => by cases hk; exact h4, fun hk => by cases hk⟩
    ·obtain ⟨j, c, h1, h2, h3⟩ := xqw hH r (i + 1) add' hr o ho
     exact ⟨j + 1, c, by simpa using h1, by rw [h2]; omega, h3⟩
  unfold xmP at h
  split at h
  ·rename_i k0 ver b hf
   obtain ⟨hm, hk⟩ := xah hf
   have hk : k0 = k := hk
   subst hk
   have hb := hH.objs _ hm
   have hhigh := hH.high _ hm rfl
   split at h
   ·have hb : E1 k0 = .slice none 0 0 := hb
    exact key true .nil rfl (fun E' hE => hE.trans hb) hhigh ⟨_, hm, rfl, fun _ => rfl, fun e ks l h => by cases h⟩ h
   ·rename_i e ks l
    obtain ⟨vs, hb⟩ := hb
    exact key true (.nst e ks l) rfl (fun E' hE => ⟨vs, by rw [hE]; exact hb⟩) hhigh ⟨_, hm, rfl, fun _ => rfl, fun e ks l h => ⟨h, rfl⟩⟩ h
   ·split at h
    ·rename_i e ks l hrow
     refine key true (.row e ks l) rfl (fun E' hE => ?_) hhigh ⟨_, hm, rfl, fun _ => rfl, fun e ks l h => by cases h⟩ h
     show xbc w' true e ks.length (E' (K + i)) l.length (rowV ks l)
     rw [hE]
     exact xbT hrow hb
    ·cases h
  ·rename_i k0 ver e ks l hf
   obtain ⟨hm, hk⟩ := xah hf
   have hk : k0 = k := hk
   subst hk
   have hb := hH.objs _ hm
   exact key false (.sub e ks l) rfl (fun E' hE => ⟨rfl, by rw [hE]; exact hb.2⟩) (fun g hg => hH.fsh _ hm g (.inl ⟨rfl, hg⟩)) ⟨_, hm, rfl, fun h => (by cases h), fun e ks l h => by cases h⟩ h
  ·cases h
theorem xuN {objs : List Obj} : ∀ (acc : List (Option Nat)) (i : Nat) (add : List Obj), xmP P K objs i acc = some add → add.map (fun o => o.key) = (List.range acc.length).map (fun j => K + (i + j)) ∧ ∀ o ∈ add, o.ver = K ∧ xbG o.body = true
 | [], i, add, h => by cases h; simp
 | c :: r, i, add, h => by
  have key : ∀ (ow : Bool) (b : Body), xbG b = true → ((xmP P K objs (i + 1) r).map ((⟨K + i, K, ow, b⟩ : Obj) :: ·)) = some add → add.map (fun o => o.key) = (List.range (c :: r).length).map (fun j => K + (i + j)) ∧ ∀ o ∈ add, o.ver = K ∧ xbG o.body = true := by
   intro ow b hb h
   cases hr : xmP P K objs (i + 1) r with
   | none => rw [hr] at h; cases h
   | some add' =>
    rw [hr] at h
    cases h
    obtain ⟨h1, h2⟩ := xuN r (i + 1) add' hr
    refine ⟨?_, fun o ho => ?_⟩
    ·rw [List.map_cons, h1, List.length_cons, List.range_succ_eq_map, List.map_cons, List.map_map, Nat.add_zero]
     congr 1
     apply List.map_congr_left
     intro y _
     simp only [Function.comp]
     omega
    ·rcases List.mem_cons.1 ho with rfl | ho
     ·exact ⟨rfl, hb⟩
     ·exact h2 o ho
  cases c with
  | none => exact key true .nil rfl h
  | some k =>
   unfold xmP at h
   split at h
   ·split at h
    ·exact key true .nil rfl h
    ·exact key true _ rfl h
    ·split at h
     ·exact key true _ rfl h
     ·cases h
   ·exact key false _ rfl h
   ·cases h
theorem xzU {y : AV × Heap} {x : Eff} (h : pack P K y = some x) : xke K x ∧ Fits K x y := by
 unfold pack at h
 split at h
 case h_2 => cases h
 rename_i v acc hv
 cases hadd : xmP P K y.2.objs 0 acc with
 | none => rw [hadd] at h; cases h
 | some add =>
 rw [hadd] at h
 cases h
 obtain ⟨hk1, hk2⟩ := xuN acc 0 add hadd
 refine ⟨⟨rfl, fun o ho => ?_, ?_, fun o ho => (hk2 o ho).2, (xoC (E1 := fun _ => .nilFunc) y.1 [] v acc hv).2.1, fun o ho => by rw [(hk2 o ho).1]; exact Nat.le_refl _⟩, fun X E1 w0 w' hH => ?_⟩
 ·have : o.key ∈ add.map fun o => o.key := List.mem_map.2 ⟨o, ho, rfl⟩
  rw [hk1] at this
  obtain ⟨j, hj, he⟩ := List.mem_map.1 this
  have := List.mem_range.1 hj
  simp only []
  omega
 ·show (add.map fun o => o.key).Nodup
  rw [hk1]
  exact List.Pairwise.map _ (fun a b hab => by omega) List.nodup_range
 ·obtain ⟨p1, p2, p3⟩ := xoC (E1 := E1) y.1 [] v acc hv
  let E' : Env := fun k => if k < K then E1 k else match acc[k - K]? with | some c => xfp E1 c | none => .nilFunc
  have hE1 : ∀ k, k < K → E' k = E1 k := fun k hk => if_pos hk
  have hE2 : ∀ (i : Nat) o, acc[i]? = some o → E' (K + i) = xfp E1 o := fun i o hi => by
   show (if K + i < K then _ else _) = _
   rw [if_neg (by omega), show K + i - K = i from by omega, hi]
  have spec := xqw (P := P) (K := K) hH acc 0 add hadd
  have hnd := p1.nodup (by simp)
  have inn : ∀ o ∈ add, ∀ b, Inn E' w' o.key o.body b → ∃ ob ∈ y.2.objs, ob.own = true ∧ Inn E1 w' ob.key ob.body b := by
   intro o ho b hb
   obtain ⟨j, c, h1, h2, _, _, _, _, h4, h5⟩ := spec o ho
   cases c with
   | none => rw [h5 rfl] at hb; exact hb.elim
   | some k =>
    obtain ⟨ob, hob, rfl, _, h6⟩ := h4 k rfl
    have hek : E' o.key = E1 ob.key := by rw [h2, Nat.zero_add]; exact hE2 j _ h1
    generalize hbd : o.body = bd at hb
    cases bd with
    | nst e ks l =>
     obtain ⟨h7, h8⟩ := h6 e ks l hbd
     refine ⟨ob, hob, h8, ?_⟩
     rw [h7]
     obtain ⟨a, j, u, q1, q2⟩ := hb
     exact ⟨a, j, u, by rw [← hek]; exact q1, q2⟩
    | _ => exact hb.elim
  refine ⟨E', hE1, fun k => ?_, p3 E' hE1 hE2, fun o ho => ?_, fun o ho b hb => ?_, fun o ho o' ho' hown hne b hb hb' => ?_, fun o ho b hb => ?_, fun o ho b hb o' ho' hown hb' => ?_⟩
  ·show (if k < K then E1 k else _).oneCell' = true
   split
   ·exact hH.env k
   ·split
    ·rename_i c _
     cases c with
     | none => rfl
     | some k' => exact hH.env k'
    ·rfl
  ·obtain ⟨j, c, h1, h2, _, _, h3, _⟩ := spec o ho
   exact h3 E' (by rw [h2, Nat.zero_add]; exact hE2 j c h1)
  ·obtain ⟨j, c, h1, h2, _, _, _, h3, _⟩ := spec o ho
   rw [h2, Nat.zero_add, hE2 j c h1] at hb
   exact h3 b hb
  ·obtain ⟨j, c, h1, h2, _, _, _, _, h4, _⟩ := spec o ho
   obtain ⟨j', c', h1', h2', _, _, _, _, h4', _⟩ := spec o' ho'
   rw [h2, Nat.zero_add, hE2 j c h1] at hb
   rw [h2', Nat.zero_add, hE2 j' c' h1'] at hb'
   cases c with
   | none => cases hb
   | some k =>
    cases c' with
    | none => cases hb'
    | some k' =>
     obtain ⟨ob, hob, rfl, how, _⟩ := h4 k rfl
     obtain ⟨ob', hob', rfl, _⟩ := h4' k' rfl
     by_cases hkk : ob.key = ob'.key
     ·rw [← hkk] at h1'
      have := hnd j j' _ h1 h1'
      exact hne (by rw [h2, h2', this])
     ·exact hH.inj ob hob ob' hob' (how hown) hkk b hb hb'
  ·obtain ⟨ob, hob, hown, hI⟩ := inn o ho b hb
   exact hH.fsh ob hob b (.inr ⟨hown, hI⟩)
  ·obtain ⟨ob, hob, _, hI⟩ := inn o ho b hb
   obtain ⟨j', c', h1', h2', _, _, _, _, h4', _⟩ := spec o' ho'
   rw [h2', Nat.zero_add, hE2 j' c' h1'] at hb'
   cases c' with
   | none => cases hb'
   | some k' =>
    obtain ⟨ob', hob', rfl, how, _⟩ := h4' k' rfl
    exact hH.deep ob hob b hI ob' hob' (how hown) hb'
mutual
theorem xy8 {b : Bool} : ∀ {x y z : AV}, xiS b x y = some z → (b = true → z = x) ∧ (b = false → z = y)
 | .bool x, .bool y, z, h => by cases h; cases b <;> simp
 | .int k x, .int k' y, z, h => by
  unfold xiS at h
  split at h
  ·rename_i hk; subst hk; cases h; cases b <;> simp
  ·cases h
 | .agg xs, .agg ys, z, h => by
  unfold xiS at h
  cases hm : xrl b xs ys with
  | none => simp [hm] at h
  | some zs =>
   simp only [hm, Option.map_some, Option.some.injEq] at h
   subst h
   have := xs2 hm
   exact ⟨fun hb => by rw [this.1 hb], fun hb => by rw [this.2 hb]⟩
 | .tup xs, .tup ys, z, h => by
  unfold xiS at h
  cases hm : xrl b xs ys with
  | none => simp [hm] at h
  | some zs =>
   simp only [hm, Option.map_some, Option.some.injEq] at h
   subst h
   have := xs2 hm
   exact ⟨fun hb => by rw [this.1 hb], fun hb => by rw [this.2 hb]⟩
 | .sl x, .sl y, z, h => by
  unfold xiS at h
  split at h
  ·rename_i hk; subst hk; cases h; simp
  ·cases h
 | .bool _, .int _ _, _, h | .bool _, .ptr _ _, _, h | .bool _, .val _, _, h | .bool _, .fn _ _ _, _, h | .bool _, .agg _, _, h | .bool _, .tup _, _, h | .bool _, .sl _, _, h | .bool _, .ix _ _ _ _ _, _, h | .bool _, .yl _, _, h | .bool _, .vw _ _ _ _, _, h => by simp [xiS] at h
 | .int _ _, .bool _, _, h | .int _ _, .ptr _ _, _, h | .int _ _, .val _, _, h | .int _ _, .fn _ _ _, _, h | .int _ _, .agg _, _, h | .int _ _, .tup _, _, h | .int _ _, .sl _, _, h | .int _ _, .ix _ _ _ _ _, _, h | .int _ _, .yl _, _, h | .int _ _, .vw _ _ _ _, _, h => by simp [xiS] at h
 | .ptr _ _, _, _, h | .val _, _, _, h | .fn _ _ _, _, _, h | .ix _ _ _ _ _, _, _, h | .yl _, _, _, h | .vw _ _ _ _, _, _, h => by simp [xiS] at h
 | .agg _, .bool _, _, h | .agg _, .int _ _, _, h | .agg _, .ptr _ _, _, h | .agg _, .val _, _, h | .agg _, .fn _ _ _, _, h | .agg _, .tup _, _, h | .agg _, .sl _, _, h | .agg _, .ix _ _ _ _ _, _, h | .agg _, .yl _, _, h | .agg _, .vw _ _ _ _, _, h => by simp [xiS] at h
 | .tup _, .bool _, _, h | .tup _, .int _ _, _, h | .tup _, .ptr _ _, _, h | .tup _, .val _, _, h | .tup _, .fn _ _ _, _, h | .tup _, .agg _, _, h | .tup _, .sl _, _, h | .tup _, .ix _ _ _ _ _, _, h | .tup _, .yl _, _, h | .tup _, .vw _ _ _ _, _, h => by simp [xiS] at h
 | .sl _, .bool _, _, h | .sl _, .int _ _, _, h | .sl _, .ptr _ _, _, h | .sl _, .val _, _, h | .sl _, .fn _ _ _, _, h | .sl _, .tup _, _, h | .sl _, .agg _, _, h | .sl _, .ix _ _ _ _ _, _, h | .sl _, .yl _, _, h | .sl _, .vw _ _ _ _, _, h => by simp [xiS] at h
theorem xs2 {b : Bool} : ∀ {x y z : List AV}, xrl b x y = some z → (b = true → z = x) ∧ (b = false → z = y)
 | [], [], z, h => by cases h; simp
 | x :: xs, y :: ys, z, h => by
  unfold xrl at h
  split at h
  ·rename_i u us h1 h2
   cases h
   have e1 := xy8 h1
   have e2 := xs2 h2
   exact ⟨fun hb => by rw [e1.1 hb, e2.1 hb], fun hb => by rw [e1.2 hb, e2.2 hb]⟩
  ·cases h
 | [], _ :: _, _, h | _ :: _, [], _, h => by simp [xrl] at h
end
def xrC (x z : Body) : Prop := z = x ∨ (x = .nil ∧ ((∃ e ks, z = .row e ks []) ∨ ∃ e ks, z = .nst e ks []))
theorem xfP {E : Env} {w : World} {key : Nat} {own : Bool} {e : TypeId} {ks : List CK} (h : E key = .slice none 0 0) : xbi E w key own (.row e ks []) := by
 show xbc w own e ks.length (E key) 0 []
 rw [h]
 exact ⟨⟨⟨none, 0, rfl, Nat.le_refl _, Nat.zero_le _⟩, by simp, fun b hb => by cases hb⟩, by simp, fun _ => .inl ⟨none, rfl, rfl⟩⟩
theorem xrC.ok {E : Env} {w : World} {key : Nat} {own : Bool} {x z : Body} (h : xrC x z) (hx : xbi E w key own x) : xbi E w key own z := by
 rcases h with rfl | ⟨rfl, ⟨e, ks, rfl⟩ | ⟨e, ks, rfl⟩⟩
 ·exact hx
 ·exact xfP hx
 ·have : xbc w own e 0 (E key) 0 [] := xfP (e := e) (ks := []) hx
  exact ⟨[], ⟨this.reads, by simp, fun ho => by
   rcases this.own ho with h | ⟨g, cap, cur, h1, h2, h3, h4, h5, h6⟩
   ·exact .inl h
   ·have hx : E key = .slice none 0 0 := hx
    rw [hx] at h1; cases h1⟩, fun i _ _ hi => by simp at hi⟩
def OLe (x z : Obj) : Prop := x.key = z.key ∧ (x.own = z.own ∧ xrC x.body z.body ∨ z.own = false ∧ ∃ e ks l, z.body = .sub e ks l ∧ (x.body = .sub e ks l ∨ x.body = .row e ks l ∨ x.body = .nil ∧ l = []))
theorem OLe.ok {E : Env} {w : World} {x z : Obj} (h : OLe x z) (hx : xbi E w x.key x.own x.body) : xbi E w z.key z.own z.body := by
 obtain ⟨hk, ⟨ho, hb⟩ | ⟨ho, e, ks, l, hz, hb⟩⟩ := h
 ·rw [← hk, ← ho]; exact hb.ok hx
 ·rw [hz, ho, ← hk]
  refine ⟨rfl, ?_⟩
  rcases hb with hb | hb | ⟨hb, rfl⟩
  ·rw [hb] at hx; exact ⟨hx.2.reads, hx.2.len, fun h => by cases h⟩
  ·rw [hb] at hx; exact ⟨hx.reads, hx.len, fun h => by cases h⟩
  ·rw [hb] at hx
   exact xfP (e := e) (ks := ks) hx
theorem OLe.own {x z : Obj} (h : OLe x z) (ho : z.own = true) : x.own = true := by
 obtain ⟨_, ⟨h1, _⟩ | ⟨h1, _⟩⟩ := h
 ·rw [h1]; exact ho
 ·rw [h1] at ho; cases ho
theorem OLe.inn {E : Env} {w : World} {x z : Obj} (h : OLe x z) {b : Nat} (hb : Inn E w z.key z.body b) : Inn E w x.key x.body b := by
 obtain ⟨hk, ⟨_, hl⟩ | ⟨_, e, ks, l, hz, _⟩⟩ := h
 ·rcases hl with hl | ⟨_, ⟨e, ks, hl⟩ | ⟨e, ks, hl⟩⟩
  ·rw [hl, ← hk] at hb; exact hb
  ·rw [hl] at hb; exact hb.elim
  ·rw [hl] at hb
   obtain ⟨a, j, u, _, h2, _⟩ := hb
   simp at h2
 ·rw [hz] at hb; exact hb.elim
theorem xA9 {b : Bool} {x y z : Body} (h : xBa b x y = some z) : (b = true → xrC x z) ∧ (b = false → xrC y z) ∧ xbG z = true := by
 unfold xBa at h
 split at h
 ·cases h; exact ⟨fun _ => .inl rfl, fun _ => .inl rfl, rfl⟩
 ·cases h; exact ⟨fun hb => .inr ⟨rfl, .inl ⟨_, _, by rw [hb]; rfl⟩⟩, fun hb => .inl (by rw [hb]; rfl), rfl⟩
 ·cases h; exact ⟨fun hb => .inl (by rw [hb]; rfl), fun hb => .inr ⟨rfl, .inl ⟨_, _, by rw [hb]; rfl⟩⟩, rfl⟩
 ·split at h
  ·rename_i hc
   obtain ⟨rfl, rfl⟩ := hc
   cases h
   exact ⟨fun hb => .inl (by rw [hb]; rfl), fun hb => .inl (by rw [hb]; rfl), rfl⟩
  ·cases h
 ·cases h; exact ⟨fun hb => .inr ⟨rfl, .inr ⟨_, _, by rw [hb]; rfl⟩⟩, fun hb => .inl (by rw [hb]; rfl), rfl⟩
 ·cases h; exact ⟨fun hb => .inl (by rw [hb]; rfl), fun hb => .inr ⟨rfl, .inr ⟨_, _, by rw [hb]; rfl⟩⟩, rfl⟩
 ·split at h
  ·rename_i hc
   obtain ⟨rfl, rfl⟩ := hc
   cases h
   exact ⟨fun hb => .inl (by rw [hb]; rfl), fun hb => .inl (by rw [hb]; rfl), rfl⟩
  ·cases h
 ·cases h
theorem xA6 {b : Bool} {x y z : Body} (h : xA7 b x y = some z) : ∃ e ks l, z = .sub e ks l ∧ (b = true → (x = .sub e ks l ∨ x = .row e ks l ∨ x = .nil ∧ l = [])) ∧ (b = false → (y = .sub e ks l ∨ y = .row e ks l ∨ y = .nil ∧ l = [])) := by
 unfold xA7 at h
 split at h
 ·split at h
  ·rename_i hc
   obtain ⟨rfl, rfl⟩ := hc
   cases h
   exact ⟨_, _, _, rfl, fun hb => .inl (by rw [hb]; rfl), fun hb => .inl (by rw [hb]; rfl)⟩
  ·cases h
 ·split at h
  ·rename_i hc
   obtain ⟨rfl, rfl⟩ := hc
   cases h
   exact ⟨_, _, _, rfl, fun hb => .inl (by rw [hb]; rfl), fun hb => .inr (.inl (by rw [hb]; rfl))⟩
  ·cases h
 ·split at h
  ·rename_i hc
   obtain ⟨rfl, rfl⟩ := hc
   cases h
   exact ⟨_, _, _, rfl, fun hb => .inr (.inl (by rw [hb]; rfl)), fun hb => .inl (by rw [hb]; rfl)⟩
  ·cases h
 ·cases h
  exact ⟨_, _, _, rfl, fun hb => .inl (by rw [hb]; rfl), fun hb => .inr (.inr ⟨rfl, by rw [hb]; rfl⟩)⟩
 ·cases h
  exact ⟨_, _, _, rfl, fun hb => .inr (.inr ⟨rfl, by rw [hb]; rfl⟩), fun hb => .inl (by rw [hb]; rfl)⟩
 ·cases h
def xzA (xs zs : List Obj) : Prop := ∀ z ∈ zs, ∃ x ∈ xs, OLe x z
theorem xw6 {b : Bool} : ∀ {xs ys zs : List Obj}, xuQ b xs ys = some zs → (b = true → xzA xs zs) ∧ (b = false → xzA ys zs) ∧ zs.map (fun o => (o.key, o.ver)) = xs.map (fun o => (o.key, o.ver)) ∧ (∀ o ∈ zs, xbG o.body = true)
 | [], [], zs, h => by
  cases h
  refine ⟨fun _ z hz => ?_, fun _ z hz => ?_, rfl, fun z hz => ?_⟩ <;> cases hz
 | ⟨k, v, o1, x⟩ :: xs, ⟨k', v', o2, y⟩ :: ys, zs, h => by
  unfold xuQ at h
  split at h
  ·rename_i hk
   subst hk
   split at h
   ·rename_i z zs' h1 h2
    cases h
    obtain ⟨b1, b2, b3, b4⟩ := xw6 h2
    obtain ⟨a1, a2, a3⟩ : (b = true → OLe ⟨k, v, o1, x⟩ ⟨k, v, z.1, z.2⟩) ∧ (b = false → OLe ⟨k, v', o2, y⟩ ⟨k, v, z.1, z.2⟩) ∧ xbG z.2 = true := by
     cases hoo : (o1 && o2) with
     | true =>
      rw [hoo] at h1
      obtain ⟨z0, hz, rfl⟩ := Option.map_eq_some_iff.1 h1
      rw [Bool.and_eq_true] at hoo
      obtain ⟨rfl, rfl⟩ := hoo
      obtain ⟨c1, c2, c3⟩ := xA9 hz
      exact ⟨fun hb => ⟨rfl, .inl ⟨rfl, c1 hb⟩⟩, fun hb => ⟨rfl, .inl ⟨rfl, c2 hb⟩⟩, c3⟩
     | false =>
      rw [hoo] at h1
      obtain ⟨z0, hz, rfl⟩ := Option.map_eq_some_iff.1 h1
      obtain ⟨e, ks, l, rfl, c1, c2⟩ := xA6 hz
      exact ⟨fun hb => ⟨rfl, .inr ⟨rfl, e, ks, l, rfl, c1 hb⟩⟩, fun hb => ⟨rfl, .inr ⟨rfl, e, ks, l, rfl, c2 hb⟩⟩, rfl⟩
    refine ⟨fun hb o ho => ?_, fun hb o ho => ?_, by simp [b3], fun o ho => ?_⟩
    ·rcases List.mem_cons.1 ho with rfl | ho
     ·exact ⟨_, List.mem_cons_self, a1 hb⟩
     ·obtain ⟨p, q, r⟩ := b1 hb o ho; exact ⟨p, List.mem_cons_of_mem _ q, r⟩
    ·rcases List.mem_cons.1 ho with rfl | ho
     ·exact ⟨_, List.mem_cons_self, a2 hb⟩
     ·obtain ⟨p, q, r⟩ := b2 hb o ho; exact ⟨p, List.mem_cons_of_mem _ q, r⟩
    ·rcases List.mem_cons.1 ho with rfl | ho
     ·exact a3
     ·exact b4 o ho
   ·cases h
  ·cases h
 | [], _ :: _, _, h => by simp [xuQ] at h
 | _ :: _, [], _, h => by simp [xuQ] at h
theorem Fits.le {x z : Eff} {y : AV × Heap} (h : Fits K x y) (hv : ∀ E, z.v.den E = x.v.den E) (ha : xzA x.add z.add) : Fits K z y := by
 intro X E1 w0 w' hH
 obtain ⟨E', h1, h2, h3, h4, h5, h6, h7, h8⟩ := h X E1 w0 w' hH
 refine ⟨E', h1, h2, by rw [hv]; exact h3, fun o ho => ?_, fun o ho => ?_, fun o ho o' ho' hown hne => ?_, fun o ho b hb => ?_, fun o ho b hb o' ho' hown => ?_⟩
 ·obtain ⟨x, hx, e⟩ := ha o ho
  exact e.ok (h4 x hx)
 ·obtain ⟨x, hx, e⟩ := ha o ho
  rw [← e.1]; exact h5 x hx
 ·obtain ⟨x, hx, e⟩ := ha o ho
  obtain ⟨x', hx', e'⟩ := ha o' ho'
  rw [← e.1, ← e'.1]
  exact h6 x hx x' hx' (e.own hown) (by rw [e.1, e'.1]; exact hne)
 ·obtain ⟨x, hx, e⟩ := ha o ho
  exact h7 x hx b (e.inn hb)
 ·obtain ⟨x, hx, e⟩ := ha o ho
  obtain ⟨x', hx', e'⟩ := ha o' ho'
  rw [← e'.1]
  exact h8 x hx b (e.inn hb) x' hx' (e'.own hown)
theorem xw7 {b : Bool} {x y z : Eff} (hx : xke K x) (hy : xke K y) (h : xA8 b x y = some z) :
  xke K z ∧ (z.holds → (b = true → x.holds) ∧ (b = false → y.holds)) ∧ (∀ u, b = true → Fits K x u → Fits K z u) ∧ (∀ u, b = false → Fits K y u → Fits K z u) := by
 unfold xA8 at h
 split at h
 case h_2 => cases h
 rename_i v add hv ha
 split at h
 case isFalse => cases h
 rename_i hc
 rw [Bool.and_eq_true, Bool.and_eq_true] at hc
 have hnk : x.nk = y.nk := Nat.eq_of_beq_eq_true hc.2
 cases h
 have hm := xy8 hv
 obtain ⟨m1, m2, m3, m4⟩ := xw6 ha
 have hkeys : add.map (fun o => o.key) = x.add.map fun o => o.key := by
  have := congrArg (List.map (fun p : Nat × Nat => p.1)) m3
  simpa [List.map_map, Function.comp_def] using this
 have hvers : ∀ o ∈ add, ∃ o' ∈ x.add, o'.key = o.key ∧ o'.ver = o.ver := by
  intro o ho
  have : (o.key, o.ver) ∈ add.map fun o => (o.key, o.ver) := List.mem_map.2 ⟨o, ho, rfl⟩
  rw [m3] at this
  obtain ⟨o', ho', he⟩ := List.mem_map.1 this
  exact ⟨o', ho', (Prod.mk.inj he).1, (Prod.mk.inj he).2⟩
 refine ⟨⟨rfl, fun o ho => ?_, by show (add.map _).Nodup; rw [hkeys]; exact hx.uniq, m4, ?_, fun o ho => ?_⟩, fun hp => ?_, fun u hb hf => ?_, fun u hb hf => ?_⟩
 ·obtain ⟨o', ho', e1, _⟩ := hvers o ho
  rw [← e1]; exact hx.key o' ho'
 ·show AV.lt (K + x.nk) v
  cases b with
  | true => rw [hm.1 rfl]; exact xsa _ hx.val
  | false => rw [hm.2 rfl, hnk]; exact xsa _ hy.val
 ·obtain ⟨o', ho', _, e2⟩ := hvers o ho
  rw [← e2]; exact hx.ver o' ho'
 ·have hp : match xCN b x.p y.p with | none => True | some p => p := hp
  cases hxp : x.p with
  | none => cases hyp : y.p with
   | none => simp [Eff.holds, hxp, hyp]
   | some q => rw [hxp, hyp] at hp; exact ⟨fun _ => by simp [Eff.holds, hxp], fun hb => by simp only [Eff.holds, hyp]; exact hp hb⟩
  | some p => cases hyp : y.p with
   | none => rw [hxp, hyp] at hp; exact ⟨fun hb => by simp only [Eff.holds, hxp]; exact hp hb, fun _ => by simp [Eff.holds, hyp]⟩
   | some q => rw [hxp, hyp] at hp; exact ⟨fun hb => by simp only [Eff.holds, hxp]; exact hp.1 hb, fun hb => by simp only [Eff.holds, hyp]; exact hp.2 hb⟩
 ·exact hf.le (fun E => by show v.den E = x.v.den E; rw [hm.1 hb, xg8]) (m1 hb)
 ·exact hf.le (fun E => by show v.den E = y.v.den E; rw [hm.2 hb, xg8]) (m2 hb)
theorem xB8 {x y : Body} {q : Prop} (h : xDb x y = some q) (hq : q) : xrC x y := by
 unfold xDb at h
 split at h
 ·exact .inl rfl
 ·cases h; subst hq; exact .inr ⟨rfl, .inl ⟨_, _, rfl⟩⟩
 ·split at h
  ·rename_i hc
   obtain ⟨rfl, rfl⟩ := hc
   cases h; subst hq; exact .inl rfl
  ·cases h
 ·cases h; subst hq; exact .inr ⟨rfl, .inr ⟨_, _, rfl⟩⟩
 ·split at h
  ·rename_i hc
   obtain ⟨rfl, rfl⟩ := hc
   cases h; subst hq; exact .inl rfl
  ·cases h
 ·split at h
  ·rename_i hc
   obtain ⟨rfl, rfl⟩ := hc
   cases h; subst hq; exact .inl rfl
  ·cases h
 ·cases h
theorem xyV : ∀ {xs ys : List Obj} {q : Prop}, xzK xs ys = some q → q → xzA xs ys
 | [], [], q, h, _ => fun z hz => by cases hz
 | ⟨k, v, o1, x⟩ :: xs, ⟨k', v', o2, y⟩ :: ys, q, h, hq => by
  unfold xzK at h
  split at h
  ·rename_i hk
   obtain ⟨rfl, rfl⟩ := hk
   split at h
   ·rename_i p1 q1 h1 h2
    cases h
    intro o ho
    rcases List.mem_cons.1 ho with rfl | ho
    ·exact ⟨_, List.mem_cons_self, rfl, .inl ⟨rfl, xB8 h1 hq.1⟩⟩
    ·obtain ⟨p, q, r⟩ := xyV h2 hq.2 o ho; exact ⟨p, List.mem_cons_of_mem _ q, r⟩
   ·cases h
  ·cases h
 | [], _ :: _, _, h, _ => by simp [xzK] at h
 | _ :: _, [], _, h, _ => by simp [xzK] at h
theorem xAE {x y : AV} (h : xDa x y = true) (E : Env) : y.den E = x.den E := by
 unfold xDa at h
 split at h
 ·rw [Nat.eq_of_beq_eq_true h]
 ·cases h
theorem xqT {p : Prop} {x : Eff} (h : ({ x with p := andP p x.p } : Eff).holds) : p ∧ x.holds := by
 have hp : match andP p x.p with | none => True | some p => p := h
 cases hx : x.p with
 | none => rw [hx] at hp; exact ⟨hp, by simp [Eff.holds, hx]⟩
 | some q => rw [hx] at hp; exact ⟨hp.1, by simp only [Eff.holds, hx]; exact hp.2⟩
theorem xdd : ∀ {t : Tree (AV × Heap)} {x : Eff}, xae P K t = some x → xke K x ∧ (x.holds → t.holds (Fits K x))
 | .ret y, x, h => by
  obtain ⟨h1, h2⟩ := xzU h
  exact ⟨h1, fun _ => h2⟩
 | .br b t e, x, h => by
  unfold xae at h
  split at h
  ·rename_i x1 x2 h1 h2
   obtain ⟨a1, a2⟩ := xdd h1
   obtain ⟨b1, b2⟩ := xdd h2
   obtain ⟨m1, m2, m3, m4⟩ := xw7 a1 b1 h
   exact ⟨m1, fun hp => ⟨fun hb => xaT (fun u hu => m3 u hb hu) (a2 ((m2 hp).1 hb)), fun hb => xaT (fun u hu => m4 u hb hu) (b2 ((m2 hp).2 hb))⟩⟩
  ·rename_i x1 h1 h2
   split at h
   ·cases h
    obtain ⟨a1, a2⟩ := xdd h1
    refine ⟨⟨a1.rm, a1.key, a1.uniq, a1.flat, a1.val, a1.ver⟩, fun hp => ?_⟩
    obtain ⟨q1, q2⟩ := xqT hp
    exact ⟨fun _ => a2 q2, fun hb => by rw [q1] at hb; cases hb⟩
   ·cases h
  ·rename_i y1 h1 h2
   split at h
   ·cases h
    obtain ⟨a1, a2⟩ := xdd h2
    refine ⟨⟨a1.rm, a1.key, a1.uniq, a1.flat, a1.val, a1.ver⟩, fun hp => ?_⟩
    obtain ⟨q1, q2⟩ := xqT hp
    exact ⟨fun hb => absurd (q1.symm.trans hb) (by simp), fun _ => a2 q2⟩
   ·cases h
  ·cases h
 | .need p t, x, h => by
  unfold xae at h
  cases hc : xae P K t with
  | none => rw [hc] at h; cases h
  | some x0 =>
   rw [hc] at h
   cases h
   obtain ⟨a1, a2⟩ := xdd hc
   refine ⟨⟨a1.rm, a1.key, a1.uniq, a1.flat, a1.val, a1.ver⟩, fun hp => ?_⟩
   have hp : match andP p x0.p with | none => True | some p => p := hp
   cases hx : x0.p with
   | none => rw [hx] at hp; exact ⟨hp, a2 (by simp [Eff.holds, hx])⟩
   | some q => rw [hx] at hp; exact ⟨hp.1, a2 (by simp only [Eff.holds, hx]; exact hp.2)⟩
 | .ask p t e, x, h => by
  unfold xae at h
  split at h
  ·rename_i x1 y1 h1 h2
   obtain ⟨a1, a2⟩ := xdd h1
   obtain ⟨b1, b2⟩ := xdd h2
   unfold askE at h
   split at h
   ·rename_i q hq
    split at h
    ·rename_i hc
     rw [Bool.and_eq_true] at hc
     cases h
     refine ⟨⟨b1.rm, b1.key, b1.uniq, b1.flat, b1.val, b1.ver⟩, fun hp => ?_⟩
     obtain ⟨q1, q2⟩ := xqT hp
     refine ⟨fun hpp => ?_, b2 q2⟩
     obtain ⟨q3, q4⟩ := q1 hpp
     have hx : x1.holds := by
      unfold Eff.holds
      unfold xpB at q3
      cases hxp : x1.p with
      | none => trivial
      | some r => rw [hxp] at q3; exact q3
     exact xaT (fun u hu => Fits.le hu (fun E => xAE hc.1 E) (xyV hq q4)) (a2 hx)
    ·cases h
   ·cases h
  ·cases h
 | .bad, x, h => by cases h
theorem xag.frozen {H : Heap} (h : xag X E w0 H w) : xag X E w ⟨frozen H.objs, H.next⟩ w := by
 have mem : ∀ o ∈ Sy.frozen H.objs, ∃ o' ∈ H.objs, o = { o' with own := false, body := xAq o'.body } := fun o ho => by
  obtain ⟨o', ho', rfl⟩ := List.mem_map.1 ho
  exact ⟨o', ho', rfl⟩
 have inn : ∀ (k : Nat) (b : Body) (g : Nat), Inn E w k (xAq b) g → Inn E w k b g := fun k b g hg => by cases b <;> exact hg
 refine ⟨Blw.refl _ _, h.env, ?_, ?_, ?_, ?_, ?_, ?_, ?_, ?_, ?_⟩
 ·intro o ho
  obtain ⟨o', ho', rfl⟩ := mem o ho
  have := h.objs o' ho'
  obtain ⟨k, v, own, b⟩ := o'
  cases b with
  | cells => exact this
  | row e ks l => exact ⟨this.reads, this.len, fun h => by cases h⟩
  | sub e ks l => exact ⟨this.2.reads, this.2.len, fun h => by cases h⟩
  | nst e ks l => obtain ⟨vs, this⟩ := this; exact ⟨vs, ⟨this.row.reads, this.row.len, fun h => by cases h⟩, this.cell⟩
  | arr e sz els => exact ⟨⟨this.1.reads, this.1.len, fun h => by cases h⟩, this.2⟩
  | nil => exact this
  | mp => exact this
  | fin => exact this
  | loop => exact this
 ·intro o ho hown; obtain ⟨o', ho', rfl⟩ := mem o ho; cases hown
 ·intro o ho o2 ho2 hown; obtain ⟨o', ho', rfl⟩ := mem o ho; cases hown
 ·intro o ho o2 ho2 hk
  obtain ⟨o', ho', rfl⟩ := mem o ho
  obtain ⟨o2', ho2', rfl⟩ := mem o2 ho2
  have := h.uniq o' ho' o2' ho2' hk
  rw [this]
 ·intro o ho; obtain ⟨o', ho', rfl⟩ := mem o ho
  obtain ⟨h1, h2⟩ := h.lt o' ho'
  refine ⟨h1, ?_⟩
  obtain ⟨k, v, own, b⟩ := o'
  cases b <;> exact h2
 ·intro y hy
  refine ⟨(h.prot y hy).1, fun o ho => ?_⟩
  obtain ⟨o', ho', rfl⟩ := mem o ho; exact (h.prot y hy).2 o' ho'
 ·intro o ho b hb o2 ho2 hown; obtain ⟨o', ho', rfl⟩ := mem o2 ho2; cases hown
 ·intro y hy o ho hi
  obtain ⟨o', ho', rfl⟩ := mem o ho
  exact h.protD y hy o' ho' (inn _ _ _ hi)
 ·intro o ho b hb
  obtain ⟨o', ho', rfl⟩ := mem o ho
  rcases hb with ⟨h1, _⟩ | ⟨h1, _⟩
  ·obtain ⟨k, v, own, bd⟩ := o'
   cases bd <;> cases h1
  ·cases h1
theorem xp0 {call : xie} (hcall : xkF P call) {f : FuncId} {args : List AV} {H : Heap} {x : Eff} (h : xae P H.next (call f args ⟨frozen H.objs, H.next⟩) = some x) (hH : xag X E w0 H w) (hargs : AV.ltL H.next args) :
  xke H.next x ∧ (x.holds → Calls P f (AV.denL E args).toArray w fun e w' => ∃ E', e = .returned (x.v.den E') ∧ xxO E w H.next x E' w') := by
 obtain ⟨h1, h2⟩ := xdd h
 refine ⟨h1, fun hp => ?_⟩
 refine hcall X w f args ⟨frozen H.objs, H.next⟩ E w _ hH.frozen hargs (xaT (fun y hy => ?_) (h2 hp))
 intro E1 w' hE hH' _ _ _
 obtain ⟨E', e1, e2, e3, e4, e5, e6, e7, e8⟩ := hy X E1 w w' hH'
 exact ⟨E', by rw [e3], fun k hk => by rw [e1 k hk, hE k hk], e2, hH'.below, e4, e5, e6, e7, e8⟩
end
end Go.Sy
