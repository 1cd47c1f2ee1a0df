/- Several texts in one (wip/pack.py): XSyNs XSyJ XSyD XSyK. -/
import Derived.CheckFast
import Derived.Test.YtikhnofbbcmpeaaGreatQIP01
set_option linter.unusedVariables false
namespace Go.Sy
open Go.RowKit
section
variable {P : Program} {X : List (Nat × Go.Obj)} {E : Env} {w0 w : World} {objs : List Obj} {n K : Nat} {ρ : Operand → Option AV} {e : Operand → Value}
theorem xft.inn {own : Bool} {e : TypeId} {ks : List NK} {key : Nat} {l : List (List Int)} {vs : List Value} (h : xft w own e ks (E key) l vs) {j : Nat} {u : Value} (hj : vs[j]? = some u) {g : Nat} (hg : blkO u = some g) : Inn E w key (.nst e ks l) g := by
 obtain ⟨a, ha, hc', _⟩ := h.row.reads.blkHead h.row.len hj
 exact ⟨a, j, u, ha, (h.get hj).1, hc', hg⟩
theorem xft.of_inn {own : Bool} {e : TypeId} {ks : List NK} {key : Nat} {l : List (List Int)} {vs : List Value} (h : xft w own e ks (E key) l vs) {g : Nat} (hg : Inn E w key (.nst e ks l) g) : ∃ (j : Nat) (u : Value), vs[j]? = some u ∧ blkO u = some g := by
 obtain ⟨a, j, u, ha, hj, hc, hb⟩ := hg
 have hjv : j < vs.length := by rw [h.row.len]; exact hj
 obtain ⟨a', ha', hc'⟩ := h.row.reads.cell j vs[j] (List.getElem?_eq_getElem hjv)
 rw [ha] at ha'
 cases ha'
 rw [hc] at hc'
 exact ⟨j, u, by rw [List.getElem?_eq_getElem hjv]; exact hc'.symm, hb⟩
theorem xeZ.one {k : NK} {m : Int} {u : Value} (h : xeZ w k m u) : u.oneCell' = true := by
 cases k with
 | c k =>
  have h : u = k.val m := h
  rw [h]; cases k <;> rfl
 | s e ks => exact h.1
theorem xeZ.move {w' : World} {k : NK} {m : Int} {u : Value} (h : xeZ w k m u) (hw : ∀ g, blkO u = some g → w'.heap[g]? = w.heap[g]?) (hs : w.heap.size ≤ w'.heap.size) : xeZ w' k m u := by
 cases k with
 | c k => exact h
 | s e ks => exact ⟨h.1, h.2.move hw hs⟩
structure EncG (P : Program) (objs : List Obj) (K : Nat) (rm : List Nat) (subs : List Obj) : Prop where
 gone : ∀ k ∈ rm, ∃ o ∈ objs, o.key = k ∧ o.own = true
 sub : ∀ s ∈ subs, ∃ o ∈ objs, xah s.key objs = some o ∧ o.own = true ∧ o.key = s.key ∧ s.key ∈ rm ∧ s.own = false ∧ s.ver = K ∧ ∃ e ks l, s.body = .sub e ks l ∧ xdk P o.body = some (e, ks, l)
theorem EncG.nil : EncG P objs K [] [] := ⟨by simp, by simp⟩
theorem EncG.app {r r' : List Nat} {s s' : List Obj} (h : EncG P objs K r s) (h' : EncG P objs K r' s') : EncG P objs K (r ++ r') (s ++ s') := by
 refine ⟨fun k hk => ?_, fun k hk => ?_⟩
 ·rcases List.mem_append.1 hk with hk | hk
  ·exact h.gone k hk
  ·exact h'.gone k hk
 ·rcases List.mem_append.1 hk with hk | hk
  ·obtain ⟨o, h1, h2, h3, h4, h5, h6⟩ := h.sub k hk
   exact ⟨o, h1, h2, h3, h4, List.mem_append.2 (.inl h5), h6⟩
  ·obtain ⟨o, h1, h2, h3, h4, h5, h6⟩ := h'.sub k hk
   exact ⟨o, h1, h2, h3, h4, List.mem_append.2 (.inr h5), h6⟩
def EncB (E : Env) (objs : List Obj) (rm : List Nat) (u : Value) : Prop := ∀ b, blkO u = some b → (∃ k ∈ rm, blkO (E k) = some b) ∨ ∃ o ∈ objs, o.own = false ∧ xlF o.body = true ∧ blkO (E o.key) = some b
theorem EncB.mono {r r' : List Nat} {u : Value} (h : EncB E objs r u) (hr : ∀ k ∈ r, k ∈ r') : EncB E objs r' u := fun b hb => by
 rcases h b hb with ⟨k, hk, h1⟩ | h1
 ·exact .inl ⟨k, hr k hk, h1⟩
 ·exact .inr h1
theorem xsR {k : CK} {m : Int} {b : Nat} (h : blkO (k.val m) = some b) : False := by cases k <;> cases h
theorem xuo {e : TypeId} {sz : Nat} : xaT w false e sz (.slice none 0 0) 0 [] :=
 ⟨⟨⟨none, 0, rfl, Nat.le_refl _, Nat.zero_le _⟩, by simp, by simp [blkO]⟩, by simp, by simp⟩
theorem xxc (hH : xaf X E w0 ⟨objs, n⟩ w) {E' : Env} {w' : World} (hE : ∀ o ∈ objs, E' o.key = E o.key) (hw : ∀ g, g < w.heap.size → w'.heap[g]? = w.heap[g]?) (hs : w.heap.size ≤ w'.heap.size)
  {k : NK} {v : AV} {m : Int} {rm : List Nat} {subs : List Obj} (h : encK P objs K k v = some (m, rm, subs)) : xeZ w' k m (v.den E') ∧ EncG P objs K rm subs ∧ EncB E objs rm (v.den E') := by
 have nilCell : ∀ {e : TypeId} {ks : List CK}, xeZ w' (.s e ks) (encL []) (.slice none 0 0) := by
  intro e ks
  refine ⟨rfl, ?_⟩
  rw [xeQ]
  exact xuo
 have nilB : EncB E objs [] (.slice none 0 0) := fun b hb => by cases hb
 unfold encK at h
 split at h
 ·-- plain
  rename_i k v
  split at h
  ·rename_i m' hc
   cases h
   have := xrz E' hc
   exact ⟨this, EncG.nil, fun b hb => by rw [this] at hb; exact (xsR hb).elim⟩
  ·cases h
 ·rename_i e ks key
  split at h
  case h_2 => cases h
  rename_i k0 ver own b hf
  obtain ⟨hm, hk⟩ := xai hf
  have hk : k0 = key := hk
  subst hk
  have hb := hH.objs _ hm
  have hEk : E' k0 = E k0 := hE _ hm
  have cell : ∀ {l : List (List Int)}, xdk P b = some (e, ks, l) → xeZ w' (.s e ks) (encL l) (E k0) := by
   intro l hr
   have hrow := xbx hr hb
   refine ⟨hH.env _, ?_⟩
   rw [xeQ]
   refine xaT.move ⟨hrow.reads, hrow.len, fun h => by cases h⟩ (fun g hg => hw g (hrow.reads.blk g hg)) hs
  split at h
  ·rename_i e' ks' l hr
   split at h
   case isFalse => cases h
   rename_i hc
   obtain ⟨rfl, rfl⟩ := hc
   simp only [AV.den, hEk]
   split at h
   ·cases h
    refine ⟨cell hr, ⟨?_, ?_⟩, fun b hb => .inl ⟨k0, by simp, hb⟩⟩
    ·intro k hk; simp at hk; subst hk; exact ⟨_, hm, rfl, rfl⟩
    ·intro s hs; simp at hs; subst hs
     exact ⟨_, hm, hf, rfl, rfl, by simp, rfl, rfl, _, _, _, rfl, hr⟩
   ·split at h
    ·rename_i hsub
     cases h
     exact ⟨cell hr, EncG.nil, fun b hb => .inr ⟨_, hm, rfl, hsub, hb⟩⟩
    ·cases h
  ·split at h
   ·cases h
    have hb : E k0 = .slice none 0 0 := hb
    simp only [AV.den, hEk, hb]
    exact ⟨nilCell, EncG.nil, nilB⟩
   ·cases h
 ·cases h
  exact ⟨nilCell, EncG.nil, nilB⟩
 ·cases h
theorem xsG (hH : xaf X E w0 ⟨objs, n⟩ w) {E' : Env} {w' : World} (hE : ∀ o ∈ objs, E' o.key = E o.key) (hw : ∀ g, g < w.heap.size → w'.heap[g]? = w.heap[g]?) (hs : w.heap.size ≤ w'.heap.size) :
  ∀ {ks : List NK} {vs : List AV} {ns : List Int} {rm : List Nat} {subs : List Obj}, encE P objs K ks vs = some (ns, rm, subs) →
   (∀ (j : Nat) (k : NK) (v : AV), ks[j]? = some k → vs[j]? = some v → xeZ w' k (ns.getD j 0) (v.den E')) ∧ EncG P objs K rm subs ∧ (∀ v ∈ vs, EncB E objs rm (v.den E')) ∧ vs.length = ks.length
 | [], [], ns, rm, subs, h => by cases h; exact ⟨by simp, EncG.nil, by simp, rfl⟩
 | k :: ks, v :: vs, ns, rm, subs, h => by
  unfold encE at h
  split at h
  ·rename_i m r s ms rs ss h1 h2
   cases h
   obtain ⟨a1, a2, a3⟩ := xxc hH hE hw hs h1
   obtain ⟨b1, b2, b3, b4⟩ := xsG hH hE hw hs h2
   refine ⟨fun j k' v' hk hv => ?_, a2.app b2, fun v' hv => ?_, by simp [b4]⟩
   ·cases j with
    | zero => simp at hk hv; subst hk; subst hv; exact a1
    | succ j => simp at hk hv; simpa using b1 j k' v' hk hv
   ·rcases List.mem_cons.1 hv with rfl | hv
    ·exact a3.mono fun k hk => List.mem_append.2 (.inl hk)
    ·exact (b3 v' hv).mono fun k hk => List.mem_append.2 (.inr hk)
  ·cases h
 | [], _ :: _, _, _, _, h => by cases h
 | _ :: _, [], _, _, _, h => by cases h
theorem xsF (hH : xaf X E w0 ⟨objs, n⟩ w) {E' : Env} {w' : World} (hE : ∀ o ∈ objs, E' o.key = E o.key) (hw : ∀ g, g < w.heap.size → w'.heap[g]? = w.heap[g]?) (hs : w.heap.size ≤ w'.heap.size) {ks : List NK} :
  ∀ {els : List (List AV)} {l : List (List Int)} {rm : List Nat} {subs : List Obj}, encR P objs K ks els = some (l, rm, subs) →
   (∀ (i j : Nat) (k : NK) (el : List AV) (v : AV), els[i]? = some el → ks[j]? = some k → el[j]? = some v → xeZ w' k ((l.getD i []).getD j 0) (v.den E')) ∧ EncG P objs K rm subs ∧ (∀ el ∈ els, ∀ v ∈ el, EncB E objs rm (v.den E')) ∧ l.length = els.length
 | [], l, rm, subs, h => by cases h; exact ⟨by simp, EncG.nil, by simp, rfl⟩
 | el :: els, l, rm, subs, h => by
  unfold encR at h
  split at h
  ·rename_i m r s ms rs ss h1 h2
   cases h
   obtain ⟨a1, a2, a3, _⟩ := xsG hH hE hw hs h1
   obtain ⟨b1, b2, b3, b4⟩ := xsF hH hE hw hs h2
   refine ⟨fun i j k' el' v' hi hk hv => ?_, a2.app b2, fun el' hel v' hv => ?_, by simp [b4]⟩
   ·cases i with
    | zero => simp at hi; subst hi; exact a1 j k' v' hk hv
    | succ i => simp at hi; simpa using b1 i j k' el' v' hi hk hv
   ·rcases List.mem_cons.1 hel with rfl | hel
    ·exact (a3 v' hv).mono fun k hk => List.mem_append.2 (.inl hk)
    ·exact (b3 el' hel v' hv).mono fun k hk => List.mem_append.2 (.inr hk)
  ·cases h
theorem xs5 (hH : xaf X E w0 ⟨objs, n⟩ w) (hfr : ∀ o ∈ objs, o.key ≠ K) {x y : Eff} {E' : Env} {w' : World} (hx : xc3 n objs K x) (he : xen E objs w K x E' w') (h : xpE P objs K x = some y) :
  xc3 n objs K y ∧ xen E objs w K y E' w' ∧ y.v = x.v ∧ y.nk = 1 ∧ y.p = none := by
 unfold xpE at h
 split at h
 case h_2 => cases h
 rename_i k0 ver0 e sz els v
 split at h
 case isFalse => cases h
 rename_i hkv
 obtain ⟨rfl, rfl⟩ := hkv
 split at h
 case h_2 => cases h
 rename_i ks hks
 split at h
 case isFalse => cases h
 rename_i hsz
 rw [Bool.and_eq_true] at hsz
 have hsz : ks.length = sz := Nat.eq_of_beq_eq_true hsz.2
 subst hsz
 split at h
 case h_2 => cases h
 rename_i l rm subs henc
 cases h
 have hE : ∀ o ∈ objs, E' o.key = E o.key := fun o ho => he.agree _ (by have := hfr o ho; show o.key < _ ∨ _ + 1 ≤ o.key; omega)
 have hchg : ∀ g, g < w.heap.size → w'.heap[g]? = w.heap[g]? := fun g hg => he.chg.block g hg (by simp)
 obtain ⟨c1, c2, c3, c4⟩ := xsF hH hE hchg he.chg.size henc
 obtain ⟨r1, r2, r3⟩ := he.bodies _ (List.mem_singleton.2 rfl)
 have r2 : ∀ el ∈ els, el.length = ks.length := r2
 have hnst : xft w' true e ks (E' ver0) l (AV.denL E' els.flatten) := by
  refine ⟨by rw [c4]; exact r1, fun i j k hi hj => ?_⟩
  have hi' : i < els.length := by rw [← c4]; exact hi
  have hel : els[i]? = some els[i] := List.getElem?_eq_getElem hi'
  have hjl : j < ks.length := (List.getElem?_eq_some_iff.1 hj).1
  have hlen := r2 els[i] (List.getElem_mem hi')
  have hv : (els[i])[j]? = some ((els[i])[j]'(by rw [hlen]; exact hjl)) := List.getElem?_eq_getElem _
  refine ⟨_, ?_, c1 i j k _ _ hel hj hv⟩
  rw [xaq, List.getElem?_map, xk7 els i j _ r2 hel hjl, hv]
  rfl
 have hown0 : ∀ g, blkO (E' ver0) = some g → w.heap.size ≤ g := fun g hg => by
  rcases he.own _ (List.mem_singleton.2 rfl) rfl g hg with h | ⟨k, hk, _⟩
  ·exact h
  ·cases hk
 have hinn : ∀ g, Inn E' w' ver0 (.nst e ks l) g → (∃ k ∈ rm, blkO (E k) = some g) ∨ ∃ o ∈ objs, o.own = false ∧ xlF o.body = true ∧ blkO (E o.key) = some g := by
  intro g hg
  obtain ⟨j, u, hj, hb⟩ := hnst.of_inn hg
  rw [xaq, List.getElem?_map] at hj
  obtain ⟨v, hv, rfl⟩ := Option.map_eq_some_iff.1 hj
  obtain ⟨el, hel, hvel⟩ := List.mem_flatten.1 (List.mem_of_getElem? hv)
  exact c3 el hel v hvel g hb
 have hinlt : ∀ g, Inn E' w' ver0 (.nst e ks l) g → g < w.heap.size := by
  intro g hg
  rcases hinn g hg with ⟨k, hk, h1⟩ | ⟨o, ho, _, _, h1⟩
  ·obtain ⟨o, ho, rfl, _⟩ := c2.gone k hk
   exact xl6 (hH.objs o ho) h1
  ·exact xl6 (hH.objs o ho) h1
 have hnk : ∀ k ∈ rm, k ≠ ver0 := fun k hk e => by
  obtain ⟨o, ho, rfl, _⟩ := c2.gone k hk
  exact hfr o ho e
 have hsubE : ∀ s ∈ subs, E' s.key = E s.key := fun s hs => by
  obtain ⟨o, ho, _, _, h3, _⟩ := c2.sub s hs
  rw [← h3]; exact hE o ho
 have hsubI : ∀ s ∈ subs, ∀ g, ¬ Inn E' w' s.key s.body g := fun s hs g hg => by
  obtain ⟨o, ho, _, _, _, _, _, _, e1, k1, l1, hb, _⟩ := c2.sub s hs
  rw [hb] at hg; exact hg
 have hshr : ∀ g, (∃ k ∈ rm, blkO (E k) = some g) ∨ (∃ o ∈ objs, o.own = false ∧ xlF o.body = true ∧ blkO (E o.key) = some g) → Shr E objs w rm g := by
  rintro g (h1 | ⟨o, ho, h2, h3, h4⟩)
  ·exact .inr (.inl h1)
  ·refine .inr (.inr (.inl ⟨o, ho, h2, fun hk => ?_, h4⟩))
   obtain ⟨o', ho', h5, h6⟩ := c2.gone _ hk
   have := hH.uniq o' ho' o ho h5
   rw [this, h2] at h6
   cases h6
 refine ⟨⟨c2.gone, ?_, ?_, ?_, hx.val, ?_⟩, ⟨he.agree, he.env, ?_, ?_, ?_, ?_, ?_, ?_, ?_, ?_⟩, rfl, rfl, rfl⟩
 ·intro o ho
  rcases List.mem_cons.1 ho with rfl | ho
  ·exact .inr ⟨Nat.le_refl _, Nat.lt_succ_self _⟩
  ·obtain ⟨_, _, _, _, _, h5, _⟩ := c2.sub o ho
   exact .inl h5
 ·intro o ho o' ho' hk
  rcases List.mem_cons.1 ho with rfl | ho <;> rcases List.mem_cons.1 ho' with rfl | ho'
  ·rfl
  ·exfalso
   obtain ⟨_, _, _, _, _, h5, _⟩ := c2.sub o' ho'
   exact hnk _ h5 hk.symm
  ·exfalso
   obtain ⟨_, _, _, _, _, h5, _⟩ := c2.sub o ho
   exact hnk _ h5 hk
  ·obtain ⟨o1, _, f1, _, _, _, g1, g2, e1, k1, l1, g3, g4⟩ := c2.sub o ho
   obtain ⟨o2, _, f2, _, _, _, g1', g2', e2, k2, l2, g3', g4'⟩ := c2.sub o' ho'
   rw [hk, f2] at f1
   cases f1
   rw [g4] at g4'
   cases g4'
   obtain ⟨a, b, c, d⟩ := o
   obtain ⟨a', b', c', d'⟩ := o'
   simp only [] at hk g1 g2 g3 g1' g2' g3'
   subst hk g1 g2 g3 g1' g2' g3'
   rfl
 ·intro o ho
  rcases List.mem_cons.1 ho with rfl | ho
  ·trivial
  ·obtain ⟨_, _, _, _, _, _, _, _, e1, k1, l1, hb, _⟩ := c2.sub o ho
   rw [hb]; trivial
 ·intro o ho
  rcases List.mem_cons.1 ho with rfl | ho
  ·exact Nat.le_refl _
  ·obtain ⟨_, _, _, _, _, _, _, h7, _⟩ := c2.sub o ho
   rw [h7]; exact Nat.le_refl _
 ·refine ⟨he.chg.drawn, he.chg.os, he.chg.tape, he.chg.output, he.chg.size, fun k hk _ => hchg k hk⟩
 ·intro o ho
  rcases List.mem_cons.1 ho with rfl | ho
  ·exact ⟨_, hnst⟩
  ·obtain ⟨o1, ho1, f1, f2, f3, _, g1, g2, e1, k1, l1, g3, g4⟩ := c2.sub o ho
   rw [g3, g1]
   refine ⟨rfl, ?_⟩
   rw [hsubE o ho, ← f3]
   have hrow := xbx g4 (hH.objs o1 ho1)
   exact xaT.move ⟨hrow.reads, hrow.len, fun h => by cases h⟩ (fun g hg => hchg g (hrow.reads.blk g hg)) he.chg.size
 ·intro o ho hown g hg
  rcases List.mem_cons.1 ho with rfl | ho
  ·exact .inl (hown0 g hg)
  ·obtain ⟨_, _, _, _, _, _, g1, _⟩ := c2.sub o ho
   rw [g1] at hown; cases hown
 ·intro o ho hown g hg
  rcases List.mem_cons.1 ho with rfl | ho
  ·cases hown
  ·obtain ⟨_, _, _, _, _, h5, _⟩ := c2.sub o ho
   rw [hsubE o ho] at hg
   exact .inr (.inl ⟨_, h5, hg⟩)
 ·intro o ho o' ho' hown hne g hg hg'
  rcases List.mem_cons.1 ho with rfl | ho
  ·rcases List.mem_cons.1 ho' with rfl | ho'
   ·exact hne rfl
   ·obtain ⟨o1, ho1, _, _, f3, _⟩ := c2.sub o' ho'
    rw [hsubE o' ho', ← f3] at hg'
    have := xl6 (hH.objs o1 ho1) hg'
    have := hown0 g hg
    omega
  ·obtain ⟨_, _, _, _, _, _, g1, _⟩ := c2.sub o ho
   rw [g1] at hown; cases hown
 ·intro o ho g hg
  rcases List.mem_cons.1 ho with rfl | ho
  ·exact hshr g (hinn g hg)
  ·exact (hsubI o ho g hg).elim
 ·intro o ho g hg o' ho' hown hb
  rcases List.mem_cons.1 ho with rfl | ho
  ·rcases List.mem_cons.1 ho' with rfl | ho'
   ·have := hinlt g hg
    have := hown0 g hb
    omega
   ·obtain ⟨_, _, _, _, _, _, g1, _⟩ := c2.sub o' ho'
    rw [g1] at hown; cases hown
  ·exact hsubI o ho g hg
 ·intro o ho g hg
  rcases List.mem_cons.1 ho with rfl | ho
  ·rcases hg with ⟨h1, _⟩ | ⟨_, hg⟩
   ·cases h1
   ·rcases hinn g hg with h1 | ⟨o, ho, h2, h3, h4⟩
    ·exact .inr (.inl h1)
    ·exact .inr (.inr ⟨o, ho, .inl ⟨h3, h4⟩⟩)
  ·rcases hg with ⟨_, hg⟩ | ⟨h1, _⟩
   ·obtain ⟨_, _, _, _, _, h5, _⟩ := c2.sub o ho
    rw [hsubE o ho] at hg
    exact .inr (.inl ⟨_, h5, hg⟩)
   ·obtain ⟨_, _, _, _, _, _, g1, _⟩ := c2.sub o ho
    rw [g1] at h1; cases h1.1
theorem xj8 {p : Nat → Prop} : ∀ (ks : List NK) (j : Nat) (el : List Int), (slN ks j el = [] ∨ p K) → AV.allL p (nksA K ks j el)
 | [], _, _, _ => trivial
 | .c k :: r, j, el, h => ⟨by cases k <;> trivial, xj8 r (j + 1) el h⟩
 | .s e ks :: r, j, el, h => by
  rcases h with h | h
  ·cases h
  ·exact ⟨h, xj8 r (j + 1) el (.inr h)⟩
theorem xj7 : ∀ (ks : List NK) (j : Nat) (el : List Int) (us : List Value), us.length = ks.length → (∀ (i : Nat) (k : NK), ks[i]? = some k → ∃ u, us[i]? = some u ∧ xeZ w k (el.getD (j + i) 0) u) →
  (slN ks j el = [] → ∀ E' : Env, AV.denL E' (nksA K ks j el) = us) ∧
  ∀ e ks' m, slN ks j el = [(e, ks', m)] → ∃ u ∈ us, xeZ w (.s e ks') m u ∧ ∀ E' : Env, E' K = u → AV.denL E' (nksA K ks j el) = us
 | [], j, el, us, hl, _ => by
  have : us = [] := List.eq_nil_of_length_eq_zero hl
  subst this
  exact ⟨fun _ _ => rfl, fun _ _ _ h => by cases h⟩
 | .c k :: r, j, el, [], hl, _ => by simp at hl
 | .s e ks :: r, j, el, [], hl, _ => by simp at hl
 | .c k :: r, j, el, u :: us, hl, h => by
  obtain ⟨u', hu, hc⟩ := h 0 (.c k) rfl
  cases hu
  have hc : u = k.val (el.getD j 0) := hc
  obtain ⟨h1, h2⟩ := xj7 r (j + 1) el us (by simpa using hl) fun i k' hk => by
   obtain ⟨v, hv, hc⟩ := h (i + 1) k' hk
   exact ⟨v, hv, by rw [show j + 1 + i = j + (i + 1) from by omega]; exact hc⟩
  refine ⟨fun h3 E' => ?_, fun e ks' m h3 => ?_⟩
  ·simp only [nksA, AV.denL, xrB, h1 h3 E', hc]
  ·obtain ⟨x, hx, hcx, hd⟩ := h2 e ks' m h3
   refine ⟨x, List.mem_cons_of_mem _ hx, hcx, fun E' hE => ?_⟩
   simp only [nksA, AV.denL, xrB, hd E' hE, hc]
 | .s e ks :: r, j, el, u :: us, hl, h => by
  obtain ⟨u', hu, hc⟩ := h 0 (.s e ks) rfl
  cases hu
  obtain ⟨h1, h2⟩ := xj7 r (j + 1) el us (by simpa using hl) fun i k' hk => by
   obtain ⟨v, hv, hc⟩ := h (i + 1) k' hk
   exact ⟨v, hv, by rw [show j + 1 + i = j + (i + 1) from by omega]; exact hc⟩
  refine ⟨(fun h3 => by cases h3), fun e' ks' m h3 => ?_⟩
  simp only [slN, List.cons.injEq, Prod.mk.injEq] at h3
  obtain ⟨⟨rfl, rfl, rfl⟩, h4⟩ := h3
  refine ⟨u, List.mem_cons_self, hc, fun E' hE => ?_⟩
  simp only [nksA, AV.denL, AV.den, h1 h4 E', hE]
theorem xvj (hH : xaf X E w0 ⟨objs, n⟩ w) {t : TypeId} {v : AV} {x : Eff} (h : xoR P objs K t v = some x) :
  xc3 n objs K x ∧ x.nk ≤ 1 ∧ (x.holds → ∃ E', (Instr.loadAt t (v.den E)).run P w = .ok (x.v.den E') w ∧ xen E objs w K x E' w ∧ ∀ o ∈ x.add, ∀ g, blkO (E' o.key) = some g → ∃ o' ∈ objs, Inn E w o'.key o'.body g) := by
 unfold xoR at h
 split at h
 case h_2 => cases h
 rename_i key sz kn i off
 split at h
 case h_2 => cases h
 rename_i k0 ver own e ks l m hf hm
 obtain ⟨hmem, hk⟩ := xai hf
 have hk : k0 = key := hk
 subst hk
 split at h
 case isFalse => cases h
 rename_i hc
 obtain ⟨rfl, h0, hoff, hmp⟩ := hc
 obtain ⟨vs, hN⟩ := hH.objs _ hmem
 have hN : xft w own e ks (E k0) l vs := hN
 generalize hpart : (ks.drop off).take m = part at h
 have hpl : part.length = m := by rw [← hpart]; simp; omega
 have cells : inR i l → ∃ us : List Value, us.length = part.length ∧ (∀ (j : Nat) (k : NK), part[j]? = some k → ∃ u, us[j]? = some u ∧ xeZ w k ((l.getD i.toNat []).getD (off + j) 0) u) ∧
   (∀ u ∈ us, ∃ q : Nat, vs[q]? = some u) ∧ ∀ (E' : Env) (cs : List AV) (u : AV), AV.denL E' cs = us → xgf P t cs 0 = some u → (Instr.loadAt t ((AV.ix k0 ks.length kn i off).den E)).run P w = .ok (u.den E') w := by
  intro hp
  have hil : i.toNat < l.length := by have := hp.1; have := hp.2; omega
  have hbound : i.toNat * ks.length + off + m ≤ vs.length := by
   rw [hN.row.len]
   have : (i.toNat + 1) * ks.length ≤ l.length * ks.length := Nat.mul_le_mul_right _ hil
   rw [Nat.add_mul, Nat.one_mul] at this
   omega
  refine ⟨(vs.drop (i.toNat * ks.length + off)).take m, by simp; omega, fun j k hj => ?_, fun u hu => ?_, fun E' cs u hden hu => ?_⟩
  ·have hjm : j < m := by rw [← hpl]; exact (List.getElem?_eq_some_iff.1 hj).1
   rw [← hpart, List.getElem?_take, if_pos hjm, List.getElem?_drop] at hj
   obtain ⟨u, hu, hcell⟩ := hN.cell i.toNat (off + j) k hil hj
   exact ⟨u, by rw [List.getElem?_take, if_pos hjm, List.getElem?_drop, Nat.add_assoc]; exact hu, hcell⟩
  ·obtain ⟨q, hq⟩ := List.getElem?_of_mem hu
   rw [List.getElem?_take] at hq
   split at hq
   ·rw [List.getElem?_drop] at hq; exact ⟨_, hq⟩
   ·cases hq
  ·obtain ⟨u0, hu0⟩ : ∃ u0, vs[i.toNat * ks.length + off]? = some u0 := ⟨_, List.getElem?_eq_getElem (by omega)⟩
   obtain ⟨a, ha, _⟩ := hN.row.reads.cell _ u0 hu0
   have := xll (P := P) (t := t) (E := E') (w := w) (a0 := a.add (i.toNat * ks.length + off)) (off := 0) (cs := cs) (fun j u hj => by
    rw [hden, List.getElem?_take] at hj
    split at hj
    ·rw [List.getElem?_drop] at hj
     obtain ⟨a', ha', hc'⟩ := hN.row.reads.cell _ u hj
     rw [ha] at ha'
     cases ha'
     rw [xiM]
     exact hc'
    ·cases hj) hu
   rw [xpy] at this
   simp only [AV.den, ha, Option.map_some, Instr.loadAt, Instr.sureAddr, Sem.run_bind, Sem.run_pure, Result.andThen_ok]
   exact this
 split at h
 ·-- no slice
  rename_i u hu hsl
  cases h
  refine ⟨xic _ (xf2 hu (xj8 _ _ _ (.inl hsl))), Nat.zero_le _, fun hp => ?_⟩
  obtain ⟨us, h1, h2, _, h4⟩ := cells hp
  exact ⟨E, h4 E _ _ ((xj7 part off _ us h1 h2).1 hsl E) hu, xie hH.env _ _, by simp⟩
 ·rename_i u e' ks' m' hu hsl
  cases h
  refine ⟨⟨by simp, ?_, ?_, ?_, xf2 hu (xj8 _ _ _ (.inr (.inr (Nat.lt_succ_self _)))), ?_⟩, Nat.le_refl _, fun hp => ?_⟩
  ·intro o ho; simp at ho; subst ho; exact .inr ⟨Nat.le_refl _, Nat.lt_succ_self _⟩
  ·intro o ho o' ho' _; simp at ho ho'; subst ho; subst ho'; rfl
  ·intro o ho; simp at ho; subst ho; cases own <;> trivial
  ·intro o ho; simp at ho; subst ho; exact Nat.le_refl _
  obtain ⟨us, h1, h2, h3, h4⟩ := cells hp
  obtain ⟨c, hcm, hcell, hd⟩ := (xj7 (K := K) part off _ us h1 h2).2 e' ks' m' hsl
  obtain ⟨q, hq⟩ := h3 c hcm
  have hinn : ∀ g, blkO c = some g → Inn E w k0 (.nst e ks l) g := fun g hg => hN.inn hq hg
  refine ⟨fun k => if k = K then c else E k, h4 _ _ _ (hd _ (if_pos rfl)) hu, ⟨fun k hk => if_neg (by simp at hk; omega), fun k => ?_, Chg.refl _ _, ?_, ?_, ?_, ?_, ?_, ?_, ?_⟩, ?_⟩
  ·by_cases hk : k = K
   ·simp [hk, hcell.one]
   ·simp [hk, hH.env k]
  ·intro o ho; simp at ho; subst ho
   have hr : xaT w false e' ks'.length c (decL m').length (rowV ks' (decL m')) := hcell.2
   cases own with
   | true => exact ⟨rfl, by show xaT w false e' ks'.length (if K = K then c else E K) _ _; rw [if_pos rfl]; exact hr⟩
   | false => show xaT w false e' ks'.length (if K = K then c else E K) _ _; rw [if_pos rfl]; exact hr
  ·intro o ho hown; simp at ho; subst ho; cases hown
  ·intro o ho _ g hg; simp at ho; subst ho; simp at hg
   exact .inr (.inr (.inr ⟨_, hmem, hinn g hg⟩))
  ·intro o ho o' ho' hown; simp at ho; subst ho; cases hown
  ·intro o ho g hg; simp at ho; subst ho; cases own <;> exact hg.elim
  ·intro o ho g hg; simp at ho; subst ho; cases own <;> exact hg.elim
  ·intro o ho g hg; simp at ho; subst ho
   rcases hg with ⟨h5, hg⟩ | ⟨h5, _⟩
   ·cases own with
    | false => cases h5
    | true =>
     simp at hg
     exact .inr (.inr ⟨_, hmem, .inr ⟨⟨rfl, rfl⟩, hinn g hg⟩⟩)
   ·cases h5.1
  ·intro o ho g hg; simp at ho; subst ho; simp at hg
   exact ⟨_, hmem, hinn g hg⟩
 ·cases h
theorem xsh (hH : xaf X E w0 ⟨objs, n⟩ w) {t : TypeId} {v : AV} {x : Eff} (h : xoR P objs K t v = some x) :
  xc3 n objs K x ∧ x.nk ≤ 1 ∧ (x.holds → ∃ E', (Instr.loadAt t (v.den E)).run P w = .ok (x.v.den E') w ∧ xen E objs w K x E' w) := by
 obtain ⟨h1, h2, h3⟩ := xvj hH h
 exact ⟨h1, h2, fun hp => by obtain ⟨E', g1, g2, _⟩ := h3 hp; exact ⟨E', g1, g2⟩⟩
theorem xft.append {own1 own2 own' : Bool} {e : TypeId} {ks : List NK} {v1 v2 v' : Value} {l1 l2 : List (List Int)} {vs ws : List Value} {w' : World} (h1 : xft w own1 e ks v1 l1 vs) (h2 : xft w own2 e ks v2 l2 ws)
  (hr : xaT w' own' e ks.length v' (l1.length + l2.length) (vs ++ ws)) (hm : ∀ u ∈ vs ++ ws, ∀ g, blkO u = some g → w'.heap[g]? = w.heap[g]?) (hs : w.heap.size ≤ w'.heap.size) : xft w' own' e ks v' (l1 ++ l2) (vs ++ ws) := by
 refine ⟨by rw [List.length_append]; exact hr, fun i j k hi hj => ?_⟩
 have hjl : j < ks.length := (List.getElem?_eq_some_iff.1 hj).1
 by_cases hlt : i < l1.length
 ·obtain ⟨u, hu, hc⟩ := h1.cell i j k hlt hj
  have hlen : i * ks.length + j < vs.length := (List.getElem?_eq_some_iff.1 hu).1
  refine ⟨u, by rw [List.getElem?_append_left hlen]; exact hu, ?_⟩
  rw [show (l1 ++ l2).getD i [] = l1.getD i [] from by rw [List.getD_eq_getElem?_getD, List.getElem?_append_left hlt, ← List.getD_eq_getElem?_getD]]
  exact hc.move (hm u (List.mem_append.2 (.inl (List.mem_of_getElem? hu)))) hs
 ·have hge : l1.length ≤ i := Nat.le_of_not_lt hlt
  obtain ⟨u, hu, hc⟩ := h2.cell (i - l1.length) j k (by rw [List.length_append] at hi; omega) hj
  have hlen := h1.row.len
  have hmul : (i - l1.length) * ks.length = i * ks.length - l1.length * ks.length := Nat.sub_mul _ _ _
  have hle : l1.length * ks.length ≤ i * ks.length := Nat.mul_le_mul_right _ hge
  refine ⟨u, ?_, ?_⟩
  ·rw [List.getElem?_append_right (by omega), hlen, show i * ks.length + j - l1.length * ks.length = (i - l1.length) * ks.length + j from by omega]
   exact hu
  ·rw [show (l1 ++ l2).getD i [] = l2.getD (i - l1.length) [] from by rw [List.getD_eq_getElem?_getD, List.getElem?_append_right hge, ← List.getD_eq_getElem?_getD]]
   exact hc.move (hm u (List.mem_append.2 (.inr (List.mem_of_getElem? hu)))) hs
theorem xft.empty {own : Bool} {e : TypeId} {ks : List NK} {v : Value} (hr : xaT w own e ks.length v 0 []) : xft w own e ks v [] [] :=
 ⟨hr, fun i _ _ hi => by simp at hi⟩
theorem xmQ (hH : xaf X E w0 ⟨objs, n⟩ w) {rm : List Nat} {v v' : Value} {w' : World} {e : TypeId} {ks : List NK} {l : List (List Int)} {p : Option Prop} (hrm : (rm = [] ∧ blkO v = none) ∨ ∃ key, rm = [key] ∧ v = E key ∧ ∃ o ∈ objs, o.key = key ∧ o.own = true) (h1 : v'.oneCell' = true)
  {vs : List Value} (hb : xft w' true e ks v' l vs) (hc : Chg w w' (blkO v).toList) (hblk : ∀ g, blkO v' = some g → w.heap.size ≤ g ∨ blkO v = some g)
  (hin : ∀ u ∈ vs, ∀ g, blkO u = some g → ∃ o ∈ objs, (o.own = true ∧ xpM o.body = true) ∧ Inn E w o.key o.body g) : xen E objs w K ⟨p, rm, 1, [⟨K, K, true, .nst e ks l⟩], .sl K⟩ (fun k => if k = K then v' else E k) w' := by
 have hb' : xft w' true e ks ((fun k => if k = K then v' else E k : Env) K) l vs := by simp only [if_true]; exact hb
 have hinn : ∀ g, Inn (fun k => if k = K then v' else E k) w' K (.nst e ks l) g → ∃ o ∈ objs, (o.own = true ∧ xpM o.body = true) ∧ Inn E w o.key o.body g := by
  intro g hg
  obtain ⟨j, u, hj, hbu⟩ := hb'.of_inn hg
  exact hin u (List.mem_of_getElem? hj) g hbu
 refine ⟨fun k hk => if_neg (by simp at hk; omega), fun k => ?_, ?_, ?_, ?_, ?_, ?_, ?_, ?_, ?_⟩
 ·by_cases hk : k = K
  ·simp [hk, h1]
  ·simp [hk, hH.env k]
 ·rcases hrm with ⟨rfl, h0⟩ | ⟨key, rfl, rfl, _⟩
  ·rw [h0] at hc; exact hc
  ·cases hg : blkO (E key) with
   | none => rw [hg] at hc; simpa [hg] using hc
   | some g => rw [hg] at hc; simpa [hg] using hc
 ·intro o ho; simp at ho; subst ho; exact ⟨vs, hb'⟩
 ·intro o ho _ g hg; simp at ho; subst ho; simp at hg
  rcases hblk g hg with h | h
  ·exact .inl h
  ·rcases hrm with ⟨rfl, h0⟩ | ⟨key, rfl, rfl, _⟩
   ·rw [h0] at h; cases h
   ·exact .inr ⟨key, by simp, h⟩
 ·intro o ho hf; simp at ho; subst ho; cases hf
 ·intro o ho o' ho' _ hne; simp at ho ho'; subst ho; subst ho'; exact absurd rfl hne
 ·intro o ho g hg; simp at ho; subst ho
  obtain ⟨o, ho, _, h⟩ := hinn g hg
  exact .inr (.inr (.inr ⟨o, ho, h⟩))
 ·intro o ho g hg o' ho' _ hb2; simp at ho ho'; subst ho; subst ho'; simp at hb2
  obtain ⟨o, ho, _, h⟩ := hinn g hg
  rcases hblk g hb2 with h2 | h2
  ·have := xno (hH.objs o ho) h; omega
  ·rcases hrm with ⟨_, h0⟩ | ⟨key, _, rfl, o2, ho2, rfl, hown2⟩
   ·rw [h0] at h2; cases h2
   ·exact hH.deep o ho g h o2 ho2 hown2 h2
 ·intro o ho g hg; simp at ho; subst ho
  rcases hg with ⟨h5, _⟩ | ⟨_, hg⟩
  ·cases h5
  ·obtain ⟨o, ho, hown, h⟩ := hinn g hg
   exact .inr (.inr ⟨o, ho, .inr ⟨hown, h⟩⟩)
theorem xmP {rm : List Nat} {e : TypeId} {ks : List NK} {l : List (List Int)} {p : Option Prop} (hrm : ∀ k ∈ rm, ∃ o ∈ objs, o.key = k ∧ o.own = true) : xc3 n objs K ⟨p, rm, 1, [⟨K, K, true, .nst e ks l⟩], .sl K⟩ := by
 refine ⟨hrm, ?_, ?_, ?_, Or.inr (Nat.lt_succ_self _), ?_⟩
 ·intro o ho; simp at ho; subst ho; exact .inr ⟨Nat.le_refl _, Nat.lt_succ_self _⟩
 ·intro o ho o' ho' _; simp at ho ho'; subst ho; subst ho'; rfl
 ·intro o ho; simp at ho; subst ho; trivial
 ·intro o ho; simp at ho; subst ho; exact Nat.le_refl _
theorem xpV (hH : xaf X E w0 ⟨objs, n⟩ w) {t ty : TypeId} {s y : AV} {x : Eff} (h : xkf P objs K t s y = some x) :
  xc3 n objs K x ∧ x.nk = 1 ∧ (x.holds → ∃ E' w', (Builtin.append_ #[t, t] ty #[s.den E, y.den E]).run P w = .ok (x.v.den E') w' ∧ xen E objs w K x E' w') := by
 unfold xkf at h
 split at h
 case h_2 => cases h
 rename_i key2
 split at h
 case h_2 => cases h
 rename_i k2 ver2 e2 ks2 l2 e hf2 ht
 obtain ⟨hm2, hk2⟩ := xai hf2
 have hk2 : k2 = key2 := hk2
 subst hk2
 split at h
 case h_2 => cases h
 rename_i ie hi
 split at h
 case isFalse => cases h
 rename_i hc
 obtain ⟨rfl, hsz, h0, hz⟩ := hc
 unfold xx8 at hz
 obtain ⟨ws, hN2⟩ := hH.objs _ hm2
 have hN2 : xft w true e2 ks2 (E k2) l2 ws := hN2
 cases hzz : ie.zero with
 | none => rw [hzz] at hz; cases hz
 | some z =>
 rw [hzz] at hz
 have hzs : z.cells.size = ie.size := Nat.eq_of_beq_eq_true hz
 have hws1 : ∀ u ∈ ws, u.oneCell' = true := by
  intro u hu
  obtain ⟨q, hq⟩ := List.getElem?_of_mem hu
  obtain ⟨_, _, _, hcell⟩ := hN2.get hq
  exact hcell.one
 have hin2 : ∀ u ∈ ws, ∀ g, blkO u = some g → ∃ o ∈ objs, (o.own = true ∧ xpM o.body = true) ∧ Inn E w o.key o.body g := by
  intro u hu g hg
  obtain ⟨q, hq⟩ := List.getElem?_of_mem hu
  exact ⟨_, hm2, ⟨rfl, rfl⟩, hN2.inn hq hg⟩
 have core : ∀ {v : Value} {m : Nat} {vs : List Value} {l1 : List (List Int)}, xeA w e2 ie.size v m vs → xft w true e2 ks2 v l1 vs → m = l1.length → (∀ u ∈ vs, ∀ g, blkO u = some g → ∃ o ∈ objs, (o.own = true ∧ xpM o.body = true) ∧ Inn E w o.key o.body g) →
   (∀ g, blkO v = some g → ∃ o ∈ objs, o.own = true ∧ blkO (E o.key) = some g) → xbJ ie.bytes (l1.length + l2.length) →
   ∃ v' w', (Builtin.append_ #[t, t] ty #[v, E k2]).run P w = .ok v' w' ∧ xft w' true e2 ks2 v' (l1 ++ l2) (vs ++ ws) ∧ Chg w w' (blkO v).toList ∧ (∀ b, blkO v' = some b → w.heap.size ≤ b ∨ blkO v = some b) ∧ v'.oneCell' = true := by
  intro v m vs l1 ho hN1 hml hin1 hvb hfit
  subst hml
  have hlen1 := hN1.row.len
  have hlen2 := hN2.row.len
  rw [hsz] at hlen1 hlen2
  obtain ⟨v', w', hr, ho', hch, hbl, h1'⟩ := xm2 (P := P) (ty := ty) ht hi hzz hzs h0 ho hlen1 hN2.row.reads hlen2 hws1 hfit
  refine ⟨v', w', hr, ?_, hch, hbl, h1'⟩
  refine hN1.append hN2 (by rw [hsz]; exact xct ho' (by rw [List.length_append, hlen1, hlen2, Nat.add_mul])) (fun u hu g hg => ?_) hch.size
  obtain ⟨o, hom, hown, hI⟩ : ∃ o ∈ objs, (o.own = true ∧ xpM o.body = true) ∧ Inn E w o.key o.body g := by
   rcases List.mem_append.1 hu with hu | hu
   ·exact hin1 u hu g hg
   ·exact hin2 u hu g hg
  refine hch.block g (xno (hH.objs o hom) hI) fun hmem => ?_
  rw [Option.mem_toList] at hmem
  obtain ⟨o2, hom2, hown2, hb2⟩ := hvb g hmem
  exact hH.deep o hom g hI o2 hom2 hown2 hb2
 have nilN : xft w true e2 ks2 (.slice none 0 0) [] [] := xft.empty (xct (.inl ⟨none, rfl, rfl⟩) (by simp))
 split at h
 ·-- nil
  cases h
  refine ⟨xmP (by simp), rfl, fun hp => ?_⟩
  have hp : xbJ ie.bytes l2.length := hp
  obtain ⟨v', w', hr, hN, hch, hbl, h1⟩ := core (v := .slice none 0 0) (m := 0) (vs := []) (l1 := []) (.inl ⟨none, rfl, rfl⟩) nilN rfl (by simp) (fun g hg => by cases hg) (by simpa using hp)
  exact ⟨_, w', by simp only [AV.den, if_true]; exact hr, xmQ hH (.inl ⟨rfl, rfl⟩) h1 (by simpa using hN) hch hbl (by simpa using hin2)⟩
 ·rename_i key
  split at h
  case isFalse => cases h
  rename_i hne
  split at h
  ·-- a nil object
   rename_i k1 ver1 hf1
   cases h
   obtain ⟨hm1, hk1⟩ := xai hf1
   have hk1 : k1 = key := hk1
   subst hk1
   have hnil : E k1 = .slice none 0 0 := hH.objs _ hm1
   refine ⟨xmP (fun k hk => by simp at hk; subst hk; exact ⟨_, hm1, rfl, rfl⟩), rfl, fun hp => ?_⟩
   have hp : xbJ ie.bytes l2.length := hp
   obtain ⟨v', w', hr, hN, hch, hbl, h1⟩ := core (v := E k1) (m := 0) (vs := []) (l1 := []) (.inl ⟨none, hnil, rfl⟩) (by rw [hnil]; exact nilN) rfl (by simp) (fun g hg => by rw [hnil] at hg; cases hg) (by simpa using hp)
   exact ⟨_, w', by simp only [AV.den, if_true]; exact hr, xmQ hH (.inr ⟨k1, rfl, rfl, _, hm1, rfl, rfl⟩) h1 (by simpa using hN) hch hbl (by simpa using hin2)⟩
  ·rename_i k1 ver1 e1 ks1 l1 hf1
   split at h
   case isFalse => cases h
   rename_i hc1
   obtain ⟨rfl, rfl⟩ := hc1
   cases h
   obtain ⟨hm1, hk1⟩ := xai hf1
   have hk1 : k1 = key := hk1
   subst hk1
   obtain ⟨vs, hN1⟩ := hH.objs _ hm1
   have hN1 : xft w true e1 ks1 (E k1) l1 vs := hN1
   have hin1 : ∀ u ∈ vs, ∀ g, blkO u = some g → ∃ o ∈ objs, (o.own = true ∧ xpM o.body = true) ∧ Inn E w o.key o.body g := by
    intro u hu g hg
    obtain ⟨q, hq⟩ := List.getElem?_of_mem hu
    exact ⟨_, hm1, ⟨rfl, rfl⟩, hN1.inn hq hg⟩
   refine ⟨xmP (fun k hk => by simp at hk; subst hk; exact ⟨_, hm1, rfl, rfl⟩), rfl, fun hp => ?_⟩
   have hp : xbJ ie.bytes (l1.length + l2.length) := hp
   obtain ⟨v', w', hr, hN, hch, hbl, h1⟩ := core (v := E k1) (m := l1.length) (vs := vs) (l1 := l1) (by rw [← hsz]; exact hN1.row.own rfl) hN1 rfl hin1 (fun g hg => ⟨_, hm1, rfl, hg⟩) hp
   exact ⟨_, w', by simp only [AV.den, if_true]; exact hr, xmQ hH (.inr ⟨k1, rfl, rfl, _, hm1, rfl, rfl⟩) h1 hN hch hbl (fun u hu g hg => by
    rcases List.mem_append.1 hu with hu | hu
    ·exact hin1 u hu g hg
    ·exact hin2 u hu g hg)⟩
  ·cases h
 ·cases h
theorem xss {kt : TypeId} {q : IntKind} (h : keyI P kt = some q) : P.underlying kt = some (.int q) := by
 unfold keyI at h
 split at h
 ·rename_i q' hu; cases h; exact hu
 ·cases h
theorem xuB {q : IntKind} {v : AV} {m : Int} (h : intK q v = some m) : v.den E = .int q m := by
 unfold intK at h
 split at h
 ·split at h
  ·rename_i hk; cases h; subst hk; rfl
  ·cases h
 ·split at h
  ·rename_i hk; cases h; subst hk; rfl
  ·cases h
 ·cases h
theorem xxb (hH : xaf X E w0 ⟨objs, n⟩ w) {k : NK} {v : AV} {m : Int} (h : encQ P objs k v = some m) : xeZ w k m (v.den E) ∧ ∀ b, blkO (v.den E) = some b → ∃ o ∈ objs, o.own = false ∧ blkO (E o.key) = some b := by
 have nilCell : ∀ {e : TypeId} {ks : List CK}, xeZ w (.s e ks) (encL []) (.slice none 0 0) := by
  intro e ks
  refine ⟨rfl, ?_⟩
  rw [xeQ]
  exact xuo
 unfold encQ at h
 split at h
 ·rename_i k v
  have := xrz E h
  exact ⟨this, fun b hb => by rw [this] at hb; exact (xsR hb).elim⟩
 ·rename_i e ks key
  split at h
  case h_2 => cases h
  rename_i k0 ver b hf
  obtain ⟨hm, hk⟩ := xai hf
  have hk : k0 = key := hk
  subst hk
  split at h
  case h_2 => cases h
  rename_i e' ks' l hr
  split at h
  case isFalse => cases h
  rename_i hc
  obtain ⟨rfl, rfl⟩ := hc
  cases h
  have hrow := xbx hr (hH.objs _ hm)
  refine ⟨⟨hH.env _, ?_⟩, fun b hb => ⟨_, hm, rfl, hb⟩⟩
  rw [xeQ]
  exact hrow
 ·cases h
  exact ⟨nilCell, fun b hb => by cases hb⟩
 ·cases h
theorem xmO (hH : xaf X E w0 ⟨objs, n⟩ w) : ∀ {ks : List NK} {vs : List AV} {ns : List Int}, xpS P objs ks vs = some ns →
  (AV.denL E vs).length = ks.length ∧ ns.length = ks.length ∧ (∀ (j : Nat) (k : NK), ks[j]? = some k → ∃ u, (AV.denL E vs)[j]? = some u ∧ xeZ w k (ns.getD j 0) u) ∧ ∀ u ∈ AV.denL E vs, ∀ b, blkO u = some b → ∃ o ∈ objs, o.own = false ∧ blkO (E o.key) = some b
 | [], [], ns, h => by cases h; exact ⟨rfl, rfl, (fun j k hj => by simp at hj), (fun u hu => by cases hu)⟩
 | k :: ks, v :: vs, ns, h => by
  unfold xpS at h
  split at h
  ·rename_i m ms h1 h2
   cases h
   obtain ⟨a1, a2⟩ := xxb hH h1
   obtain ⟨b1, b2, b3, b4⟩ := xmO hH h2
   refine ⟨by simp [AV.denL, b1], by simp [b2], fun j k' hj => ?_, fun u hu => ?_⟩
   ·cases j with
    | zero => simp at hj; subst hj; exact ⟨_, rfl, a1⟩
    | succ j => simp at hj; simpa [AV.denL] using b3 j k' hj
   ·rcases List.mem_cons.1 hu with rfl | hu
    ·exact a2
    ·exact b4 u hu
  ·cases h
 | [], _ :: _, _, h => by cases h
 | _ :: _, [], _, h => by cases h
theorem xwm {q : IntKind} {ks : List NK} {v : Value} {l : List (List Int)} {b : Nat} {es : Array MapEntry} {clock : Nat} (hM : MqOk w v q ks l b es clock) {i : Nat} {e : MapEntry} (he : es.toList[i]? = some e) : ∃ r, l[i]? = some r ∧ l.getD i [] = r ∧ r ∈ l ∧ e.key = .int q (r.getD 0 0) ∧ r.take 1 = [r.getD 0 0] := by
 have hil : i < l.length := by rw [← hM.len]; exact (List.getElem?_eq_some_iff.1 he).1
 have hr := List.getElem?_eq_getElem hil
 have hd : l.getD i [] = l[i] := by rw [List.getD_eq_getElem?_getD, hr]; rfl
 refine ⟨l[i], hr, hd, List.getElem_mem hil, by rw [← hd]; exact (hM.ents i e he).1, ?_⟩
 have hne := hM.wf _ (List.getElem_mem hil)
 generalize l[i] = r at hne
 cases r with
 | nil => exact absurd rfl hne
 | cons a r => rfl
theorem xz2 {q : IntKind} {kt : TypeId} (hq : P.underlying kt = some (.int q)) {ks : List NK} {v : Value} {l : List (List Int)} {b : Nat} {es : Array MapEntry} {clock : Nat} (hM : MqOk w v q ks l b es clock) (m : Int) :
  ((Instr.findKey kt (.int q m) es.toList).run P w = .ok none w ∧ xbP 1 [m] l = none ∧ ∀ r ∈ l, r.take 1 ≠ [m]) ∨
  ∃ j r e, (Instr.findKey kt (.int q m) es.toList).run P w = .ok (some (j, e.val)) w ∧ l[j]? = some r ∧ r.take 1 = [m] ∧ es.toList[j]? = some e ∧ e.key = .int q m ∧ xbP 1 [m] l = some (r.drop 1) := by
 have hks : ∀ x ∈ es.toList, Go.MapKept.IsKey (.int q) x.key := fun x hx => by
  obtain ⟨i, hi⟩ := List.mem_iff_getElem?.1 hx
  obtain ⟨r, _, _, _, h4, _⟩ := xwm hM hi
  rw [h4]; exact rfl
 rcases Go.MapKept.findNow_spec (d := .int q) (k := .int q m) rfl es.toList 0 hks with ⟨h1, h2⟩ | ⟨j, e, h1, h2, h3⟩
 ·have hno : ∀ r ∈ l, r.take 1 ≠ [m] := by
   intro r hr hk
   obtain ⟨i, hi⟩ := List.mem_iff_getElem?.1 hr
   have hil : i < es.toList.length := by rw [hM.len]; exact (List.getElem?_eq_some_iff.1 hi).1
   obtain ⟨r', a1, _, _, a4, a5⟩ := xwm hM (List.getElem?_eq_getElem hil)
   rw [hi] at a1
   cases a1
   rw [a5] at hk
   exact h2 _ (List.getElem_mem hil) (by rw [a4]; injection hk with hk _; rw [hk])
  refine .inl ⟨Go.MapKept.run_findKey hq h1, ?_, hno⟩
  unfold xbP
  rw [List.find?_eq_none.2 (fun r hr => by simpa using hno r hr)]
  rfl
 ·obtain ⟨r, a1, _, a3, a4, a5⟩ := xwm hM h2
  have hk : r.take 1 = [m] := by
   rw [a4] at h3
   rw [a5, (Value.int.inj h3).2]
  refine .inr ⟨j, r, e, by simpa using Go.MapKept.run_findKey hq h1, a1, hk, h2, h3, ?_⟩
  unfold xbP
  cases hf : l.find? (fun r => decide (r.take 1 = [m])) with
  | none => exact absurd hk (by simpa using List.find?_eq_none.1 hf _ a3)
  | some r' =>
   have h4 := List.mem_of_find?_eq_some hf
   have h5 : r'.take 1 = [m] := by simpa using List.find?_some hf
   obtain ⟨i, hi⟩ := List.mem_iff_getElem?.1 h4
   have hij : i = j := by
    have hil := (List.getElem?_eq_some_iff.1 hi).1
    have hjl := (List.getElem?_eq_some_iff.1 a1).1
    have e1 : l[i] = r' := (List.getElem?_eq_some_iff.1 hi).2
    have e2 : l[j] = r := (List.getElem?_eq_some_iff.1 a1).2
    have hpw := List.pairwise_iff_getElem.1 hM.nodup
    rcases Nat.lt_trichotomy i j with hlt | hlt | hlt
    ·exact (hpw i j (by simpa using hil) (by simpa using hjl) hlt (by simp only [List.getElem_map, e1, e2, h5, hk])).elim
    ·exact hlt
    ·exact (hpw j i (by simpa using hjl) (by simpa using hil) hlt (by simp only [List.getElem_map, e1, e2, h5, hk])).elim
   subst hij
   rw [a1] at hi
   cases hi
   rfl
theorem xpI (hH : xaf X E w0 ⟨objs, n⟩ w) {t : TypeId} {x : Eff} (h : xq5 P K t = some x) :
  xc3 n objs K x ∧ x.nk ≤ 1 ∧ (x.holds → ∃ E' w', (Instr.makeMap t none).run P w = .ok (x.v.den E') w' ∧ xen E objs w K x E' w') := by
 unfold xq5 at h
 split at h
 case h_2 => cases h
 rename_i kt et hu
 split at h
 case h_2 => cases h
 rename_i q ks hq hks hag
 cases h
 have hno : ∀ g, ¬ Inn (fun k => if k = K then .map (some w.heap.size) else E k) (w.alloc (.map #[] 0)) K (.mq kt et q ks []) g := by
  rintro g ⟨m, es, clock, h1, h2, e, he, _⟩
  have h1 : Value.map (some w.heap.size) = .map (some m) := by simpa using h1
  cases h1
  rw [xbR] at h2
  cases h2
  simp at he
 refine ⟨xjU (b := .mq kt et q ks []) trivial (Nat.lt_succ_self K), Nat.le_refl _, fun _ => ⟨fun k => if k = K then .map (some w.heap.size) else E k, w.alloc (.map #[] 0), ?_, fun k hk => if_neg (by simp at hk; omega), fun k => ?_, Chg.of_below (xcJ _ _) _, ?_, ?_, ?_, ?_, ?_, ?_, ?_⟩⟩
 ·simp [Instr.makeMap, AV.den]
 ·by_cases hk : k = K
  ·simp [hk, Value.oneCell']
  ·simp [hk, hH.env k]
 ·intro o ho; simp at ho; subst ho
  exact ⟨w.heap.size, #[], 0, if_pos rfl, xbR w _, rfl, (fun i e he => by simp at he), (fun r hr => by cases hr), List.nodup_nil⟩
 ·intro o ho _ g hg; simp at ho; subst ho; simp [blkO] at hg; subst hg; exact .inl (Nat.le_refl _)
 ·intro o ho hf; simp at ho; subst ho; cases hf
 ·intro o ho o' ho' _ hne; simp at ho ho'; subst ho; subst ho'; exact absurd rfl hne
 ·intro o ho g hg; simp at ho; subst ho; exact absurd hg (hno g)
 ·intro o ho g hg; simp at ho; subst ho; exact absurd hg (hno g)
 ·intro o ho g hg; simp at ho; subst ho
  rcases hg with ⟨h1, _⟩ | ⟨h1, _⟩
  ·cases h1
  ·cases h1.2
theorem xwj (E : Env) (ok : Bool) (v : AV) (b : Bool) : (okV ok v b).den E = if ok then .tuple #[v.den E, .bool b] else v.den E := by cases ok <;> rfl
theorem xwk {p : Nat → Prop} {ok : Bool} {v : AV} {b : Bool} (h : AV.all p v) : AV.all p (okV ok v b) := by
 cases ok
 ·exact h
 ·exact ⟨h, trivial, trivial⟩
theorem xq7 (hH : xaf X E w0 ⟨objs, n⟩ w) {t : TypeId} {v k : AV} {ok : Bool} {x : Eff} (h : xmw P objs K t v k ok = some x) :
  xc3 n objs K x ∧ x.nk ≤ 1 ∧ (x.holds → ∃ E', (Instr.lookup t (v.den E) (k.den E) ok).run P w = .ok (x.v.den E') w ∧ xen E objs w K x E' w) := by
 unfold xmw at h
 split at h
 case h_2 => cases h
 rename_i key
 split at h
 case h_2 => cases h
 rename_i k0 ver own kt et q ks l hf
 split at h
 case h_2 => cases h
 rename_i m z hm hz
 split at h
 case h_2 => cases h
 rename_i zc hzc
 split at h
 case isFalse => cases h
 rename_i hc
 obtain ⟨hmem, hk⟩ := xai hf
 have hk : k0 = key := hk
 subst hk
 obtain ⟨b, es, clock, hM⟩ := hH.objs _ hmem
 have hM : MqOk w (E k0) q ks l b es clock := hM
 have hu := xiv hc.1
 have hq := xss hc.2
 obtain ⟨z1, z2, z3, z4⟩ := xmO hH hzc
 have cells : ∃ us : List Value, us.length = ks.length ∧ (∀ (j : Nat) (k : NK), ks[j]? = some k → ∃ u, us[j]? = some u ∧ xeZ w k (((xbP 1 [m] l).getD zc).getD (0 + j) 0) u) ∧
   (∀ u ∈ us, ∀ g, blkO u = some g → Shr E objs w [] g) ∧
   (Instr.lookup t ((AV.sl k0).den E) (k.den E) ok).run P w = .ok (if ok then .tuple #[.agg us.toArray, .bool (xbP 1 [m] l).isSome] else .agg us.toArray) w := by
  have hv : (AV.sl k0).den E = .map (some b) := hM.is
  rw [hv, xuB (E := E) hm]
  have hck := Go.MapKept.run_checkKey (P := P) (w := w) hq (k := .int q m) rfl es.isEmpty 9999
  rcases xz2 (P := P) hq hM m with ⟨h1, h2, _⟩ | ⟨j, r, e, h1, h2, h3, h4, h5, h6⟩
  ·refine ⟨AV.denL E z, z1, fun j k' hj => ?_, fun u hu g hg => ?_, ?_⟩
   ·obtain ⟨u, hu, hcell⟩ := z3 j k' hj
    exact ⟨u, hu, by rw [h2, Nat.zero_add]; exact hcell⟩
   ·obtain ⟨o, ho, hown, hb⟩ := z4 u hu g hg
    exact .inr (.inr (.inl ⟨o, ho, hown, by simp, hb⟩))
   ·have hzr := xhC (P := P) hz E w
    unfold Instr.lookup
    simp only [Sem.run_bind, run_underlying hu, Result.andThen_ok, Go.MapKept.run_getObj_map hM.at_, Sem.run_pure, hck, h1, hzr, h2, AV.den]
    cases ok <;> rfl
  ·obtain ⟨_, cs, c1, c2, c3⟩ := hM.ents j e h4
   have hd : l.getD j [] = r := by rw [List.getD_eq_getElem?_getD, h2]; rfl
   rw [hd] at c3
   refine ⟨cs, c2, fun j' k' hj => ?_, fun u hu g hg => .inr (.inr (.inr ⟨_, hmem, b, es, clock, hM.is, hM.at_, e, List.mem_of_getElem? h4, cs, c1, u, hu, hg⟩)), ?_⟩
   ·obtain ⟨u, hu, hcell⟩ := c3 j' k' hj
    refine ⟨u, hu, ?_⟩
    rw [h6]
    show xeZ w k' ((r.drop 1).getD (0 + j') 0) u
    rw [Nat.zero_add, List.getD_eq_getElem?_getD, List.getElem?_drop, Nat.add_comm, ← List.getD_eq_getElem?_getD]
    exact hcell
   ·unfold Instr.lookup
    simp only [Sem.run_bind, run_underlying hu, Result.andThen_ok, Go.MapKept.run_getObj_map hM.at_, Sem.run_pure, hck, h1, h6, c1]
    cases ok <;> rfl
 obtain ⟨us, u1, u2, u3, u4⟩ := cells
 split at h
 ·rename_i hsl
  cases h
  refine ⟨xic _ (xwk (xj8 _ _ _ (.inl hsl))), Nat.zero_le _, fun _ => ⟨E, ?_, xie hH.env _ _⟩⟩
  rw [xwj, AV.den, (xj7 (K := K) ks 0 _ us u1 u2).1 hsl E, u4]
 ·rename_i e' ks' m' hsl
  cases h
  refine ⟨⟨by simp, ?_, ?_, ?_, xwk (xj8 _ _ _ (.inr (.inr (Nat.lt_succ_self _)))), ?_⟩, Nat.le_refl _, fun _ => ?_⟩
  ·intro o ho; simp at ho; subst ho; exact .inr ⟨Nat.le_refl _, Nat.lt_succ_self _⟩
  ·intro o ho o' ho' _; simp at ho ho'; subst ho; subst ho'; rfl
  ·intro o ho; simp at ho; subst ho; trivial
  ·intro o ho; simp at ho; subst ho; exact Nat.le_refl _
  obtain ⟨c, hcm, hcell, hd⟩ := (xj7 (K := K) ks 0 _ us u1 u2).2 e' ks' m' hsl
  refine ⟨fun k => if k = K then c else E k, ?_, fun k hk => if_neg (by simp at hk; omega), fun k => ?_, Chg.refl _ _, ?_, ?_, ?_, ?_, ?_, ?_, ?_⟩
  ·rw [xwj, AV.den, hd _ (if_pos rfl), u4]
  ·by_cases hk : k = K
   ·simp [hk, hcell.one]
   ·simp [hk, hH.env k]
  ·intro o ho; simp at ho; subst ho
   have hr : xaT w false e' ks'.length c (decL m').length (rowV ks' (decL m')) := hcell.2
   show xaT w false e' ks'.length (if K = K then c else E K) _ _
   rw [if_pos rfl]; exact hr
  ·intro o ho hown; simp at ho; subst ho; cases hown
  ·intro o ho _ g hg; simp at ho; subst ho; simp at hg
   exact u3 c hcm g hg
  ·intro o ho o' ho' hown; simp at ho; subst ho; cases hown
  ·intro o ho g hg; simp at ho; subst ho; exact hg.elim
  ·intro o ho g hg; simp at ho; subst ho; exact hg.elim
  ·intro o ho g hg; simp at ho; subst ho
   rcases hg with ⟨h5, _⟩ | ⟨h5, _⟩
   ·cases h5
   ·cases h5.1
 ·cases h
theorem xnH (hH : xaf X E w0 ⟨objs, n⟩ w) {t : TypeId} {v k u : AV} {x : Eff} (h : xgp P objs K t v k u = some x) :
  xc3 n objs K x ∧ x.nk ≤ 1 ∧ x.v = .val undef ∧ (x.holds → ∃ w', (Instr.mapUpdate t (v.den E) (k.den E) (u.den E)).run P w = .ok () w' ∧ xen E objs w K x E w') := by
 unfold xgp at h
 split at h
 case h_2 => cases h
 rename_i key
 split at h
 case h_2 => cases h
 rename_i k0 ver kt et q ks l hf
 split at h
 case h_2 => cases h
 rename_i m cs hm
 split at h
 case h_2 => cases h
 rename_i vc hvc
 split at h
 case isFalse => cases h
 rename_i hc
 cases h
 obtain ⟨hmem, hk⟩ := xai hf
 have hk : k0 = key := hk
 subst hk
 obtain ⟨b, es, clock, hM⟩ := hH.objs _ hmem
 have hM : MqOk w (E k0) q ks l b es clock := hM
 have hu := xiv hc.1
 have hq := xss hc.2
 obtain ⟨z1, z2, z3, z4⟩ := xmO hH hvc
 have hblk : blkO (E k0) = some b := by rw [hM.is]; rfl
 have hbl : b < w.heap.size := (Array.getElem?_eq_some_iff.1 hM.at_).1
 refine ⟨⟨?_, ?_, ?_, ?_, trivial, ?_⟩, Nat.zero_le _, rfl, fun _ => ?_⟩
 ·intro k hk; simp at hk; subst hk; exact ⟨_, hmem, rfl, rfl⟩
 ·intro o ho; simp at ho; subst ho; exact .inl (by simp)
 ·intro o ho o' ho' _; simp at ho ho'; subst ho; subst ho'; rfl
 ·intro o ho; simp at ho; subst ho; trivial
 ·intro o ho; simp at ho; subst ho; exact Nat.le_refl _
 have hv : (AV.sl k0).den E = .map (some b) := hM.is
 have stay : ∀ (es' : Array MapEntry) (clock' : Nat) (k' : NK) (m' : Int) (u : Value), xeZ w k' m' u → (∀ g, blkO u = some g → g ≠ b) → xeZ { w with heap := w.heap.setIfInBounds b (.map es' clock') } k' m' u := fun es' clock' k' m' u hn hg =>
  hn.move (fun g h1 => by simp [Array.getElem?_setIfInBounds_ne (fun e => hg g h1 e.symm)]) (by simp)
 have oldne : ∀ e ∈ es.toList, ∀ cs : List Value, e.val = .agg cs.toArray → ∀ u ∈ cs, ∀ g, blkO u = some g → g ≠ b := fun e he cs hcs u hu g hg e1 => by
  subst e1
  exact hH.deep _ hmem g ⟨g, es, clock, hM.is, hM.at_, e, he, cs, hcs, u, hu, hg⟩ _ hmem rfl hblk
 have newne : ∀ u ∈ AV.denL E cs, ∀ g, blkO u = some g → g ≠ b := fun u hu g hg e1 => by
  subst e1
  obtain ⟨o, ho, hown, hb⟩ := z4 u hu g hg
  exact hH.inj _ hmem o ho rfl (fun e => by
   have := hH.uniq _ hmem o ho e
   rw [← this] at hown
   cases hown) g hblk hb
 have hnew : ∀ (es' : Array MapEntry) (clock' : Nat), ∀ (j : Nat) (k' : NK), ks[j]? = some k' → ∃ u, (AV.denL E cs)[j]? = some u ∧ xeZ { w with heap := w.heap.setIfInBounds b (.map es' clock') } k' ((m :: vc).getD (j + 1) 0) u := fun es' clock' j k' hj => by
  obtain ⟨u, hu, hcell⟩ := z3 j k' hj
  exact ⟨u, hu, stay es' clock' k' _ u hcell (newne u (List.mem_of_getElem? hu))⟩
 have hold : ∀ (es' : Array MapEntry) (clock' : Nat) (i : Nat) (e : MapEntry), es.toList[i]? = some e → ∃ cs : List Value, e.val = .agg cs.toArray ∧ cs.length = ks.length ∧ ∀ (j : Nat) (k : NK), ks[j]? = some k → ∃ u, cs[j]? = some u ∧ xeZ { w with heap := w.heap.setIfInBounds b (.map es' clock') } k ((l.getD i []).getD (j + 1) 0) u := fun es' clock' i e he => by
  obtain ⟨_, cs, c1, c2, c3⟩ := hM.ents i e he
  refine ⟨cs, c1, c2, fun j k hj => ?_⟩
  obtain ⟨u, hu, hcell⟩ := c3 j k hj
  exact ⟨u, hu, stay es' clock' k _ u hcell (oldne e (List.mem_of_getElem? he) cs c1 u (List.mem_of_getElem? hu))⟩
 have fin : ∀ (es' : Array MapEntry) (clock' : Nat), MqOk { w with heap := w.heap.setIfInBounds b (.map es' clock') } (E k0) q ks (putRow 1 [m] vc l) b es' clock' → (∀ e ∈ es'.toList, (∃ e0 ∈ es.toList, e.val = e0.val) ∨ e.val = .agg (AV.denL E cs).toArray) →
   xen E objs w K ⟨none, [k0], 0, [⟨k0, K, true, .mq kt et q ks (putRow 1 [m] vc l)⟩], .val undef⟩ E { w with heap := w.heap.setIfInBounds b (.map es' clock') } := by
  intro es' clock' h1 h2
  have hin : ∀ g, Inn E { w with heap := w.heap.setIfInBounds b (.map es' clock') } k0 (.mq kt et q ks (putRow 1 [m] vc l)) g → g ≠ b ∧ Shr E objs w [k0] g := by
   rintro g ⟨m1, es1, clock1, i1, i2, e, he, cs1, hcs, u, hu, hg⟩
   rw [hM.is] at i1
   cases i1
   rw [show ({ w with heap := w.heap.setIfInBounds b (.map es' clock') } : World).heap[b]? = some (.map es' clock') by simp [hbl]] at i2
   cases i2
   rcases h2 e he with ⟨e0, he0, hv0⟩ | hv0
   ·rw [hcs] at hv0
    exact ⟨oldne e0 he0 cs1 hv0.symm u hu g hg, .inr (.inr (.inr ⟨_, hmem, b, es, clock, hM.is, hM.at_, e0, he0, cs1, hv0.symm, u, hu, hg⟩))⟩
   ·rw [hcs] at hv0
    have e1 : cs1 = AV.denL E cs := by
     have := Value.agg.inj hv0
     simpa using congrArg Array.toList this
    rw [e1] at hu
    refine ⟨newne u hu g hg, ?_⟩
    obtain ⟨o, ho, hown, hb⟩ := z4 u hu g hg
    refine .inr (.inr (.inl ⟨o, ho, hown, fun hm => ?_, hb⟩))
    simp at hm
    have := hH.uniq _ hmem o ho hm.symm
    rw [← this] at hown
    cases hown
  refine ⟨fun _ _ => rfl, hH.env, ⟨Nat.le_refl _, rfl, rfl, rfl, by simp, fun g hg hne => ?_⟩, ?_, ?_, ?_, ?_, ?_, ?_, ?_⟩
  ·have : g ≠ b := fun e => hne (by simp [hblk, e])
   simp [Array.getElem?_setIfInBounds_ne (fun e => this e.symm)]
  ·intro o ho; simp at ho; subst ho
   exact ⟨b, es', clock', h1⟩
  ·intro o ho _ g hg; simp at ho; subst ho; exact .inr ⟨k0, by simp, hg⟩
  ·intro o ho hf; simp at ho; subst ho; cases hf
  ·intro o ho o' ho' _ hne; simp at ho ho'; subst ho; subst ho'; exact absurd rfl hne
  ·intro o ho g hg; simp at ho; subst ho; exact (hin g hg).2
  ·intro o ho g hg o' ho' _ hb2; simp at ho ho'; subst ho; subst ho'
   have hb2 : blkO (E k0) = some g := hb2
   rw [hblk] at hb2
   cases hb2
   exact (hin _ hg).1 rfl
  ·intro o ho g hg; simp at ho; subst ho
   rcases hg with ⟨h5, _⟩ | ⟨h5, _⟩
   ·cases h5
   ·cases h5.2
 rw [hv, xuB (E := E) hm]
 simp only [AV.den]
 have hck := Go.MapKept.run_checkKey (P := P) (w := w) hq (k := .int q m) rfl false 9999
 rcases xz2 (P := P) hq hM m with ⟨h1, h2, h3⟩ | ⟨j, r, e, h1, h2, h3, h4, h5, h6⟩
 ·have hput : putRow 1 [m] vc l = l ++ [m :: vc] := by unfold putRow; rw [h2]; rfl
  refine ⟨_, ?_, fin (es.push { key := .int q m, val := .agg (AV.denL E cs).toArray, born := clock }) (clock + 1) ?_ ?_⟩
  ·simp only [Instr.mapUpdate, Sem.run_bind, run_underlying hu, Result.andThen_ok, Go.MapKept.run_getObj_map hM.at_, hck, h1, Go.MapKept.run_setObj_map _ hM.at_]
  ·rw [hput]
   refine ⟨hM.is, by simp [hbl], by simp [← hM.len], fun i e he => ?_, ?_, ?_⟩
   ·rw [Array.toList_push] at he
    by_cases hi : i < es.toList.length
    ·rw [List.getElem?_append_left hi] at he
     have hil : i < l.length := by rw [← hM.len]; exact hi
     have hd : (l ++ [m :: vc]).getD i [] = l.getD i [] := by rw [List.getD_eq_getElem?_getD, List.getElem?_append_left hil, ← List.getD_eq_getElem?_getD]
     rw [hd]
     exact ⟨(hM.ents i e he).1, hold _ _ i e he⟩
    ·rw [List.getElem?_append_right (by omega)] at he
     have hi0 : i - es.toList.length = 0 := by
      have := (List.getElem?_eq_some_iff.1 he).1
      simp at this
      omega
     rw [hi0] at he
     simp at he
     subst he
     have hil : i = l.length := by
      have := hM.len
      omega
     have hd : (l ++ [m :: vc]).getD i [] = m :: vc := by rw [hil, List.getD_eq_getElem?_getD]; simp
     rw [hd]
     exact ⟨rfl, AV.denL E cs, rfl, z1, hnew _ _⟩
   ·intro r hr
    rcases List.mem_append.1 hr with hr | hr
    ·exact hM.wf r hr
    ·rw [List.mem_singleton.1 hr]; simp
   ·rw [List.map_append]
    refine List.nodup_append.2 ⟨hM.nodup, by simp, fun a ha b hb => ?_⟩
    have hb : b = [m] := by simpa using hb
    obtain ⟨r, hr, rfl⟩ := List.mem_map.1 ha
    rw [hb]
    exact h3 r hr
  ·intro e he
   rw [Array.toList_push] at he
   rcases List.mem_append.1 he with he | he
   ·exact .inl ⟨e, he, rfl⟩
   ·rw [List.mem_singleton.1 he]; exact .inr rfl
 ·have hput : putRow 1 [m] vc l = l.map (fun r => bif decide (r.take 1 = [m]) then m :: vc else r) := by unfold putRow; rw [h6]; rfl
  have htk : ∀ r : List Int, (bif decide (r.take 1 = [m]) then m :: vc else r).take 1 = r.take 1 := by
   intro r
   by_cases h : r.take 1 = [m] <;> simp [h]
  have hst := Go.MapKept.run_keyThatStays (P := P) (w := w) (d := .int q) (k := .int q m) rfl
  have hesj : es[j]? = some e := by simpa using h4
  have uniqj : ∀ (i : Nat) (r' : List Int), l[i]? = some r' → r'.take 1 = [m] → i = j := by
   intro i r' hr hk
   have hil := (List.getElem?_eq_some_iff.1 hr).1
   have hjl := (List.getElem?_eq_some_iff.1 h2).1
   have e1 : l[i] = r' := (List.getElem?_eq_some_iff.1 hr).2
   have e2 : l[j] = r := (List.getElem?_eq_some_iff.1 h2).2
   have hpw := List.pairwise_iff_getElem.1 hM.nodup
   rcases Nat.lt_trichotomy i j with hlt | hlt | hlt
   ·exact (hpw i j (by simpa using hil) (by simpa using hjl) hlt (by simp only [List.getElem_map, e1, e2, hk, h3])).elim
   ·exact hlt
   ·exact (hpw j i (by simpa using hjl) (by simpa using hil) hlt (by simp only [List.getElem_map, e1, e2, hk, h3])).elim
  have hmod : ∀ i, (es.modify j fun e => { e with key := .int q m, val := .agg (AV.denL E cs).toArray }).toList[i]? = if j = i then (es.toList[i]?).map (fun e => { e with key := .int q m, val := .agg (AV.denL E cs).toArray }) else es.toList[i]? := by
   intro i
   rw [Array.toList_modify, List.getElem?_modify]
   by_cases hji : j = i
   ·simp only [hji, if_true]
    cases es.toList[i]? <;> rfl
   ·simp only [hji, if_false]
    cases es.toList[i]? <;> rfl
  refine ⟨_, ?_, fin (es.modify j fun e => { e with key := .int q m, val := .agg (AV.denL E cs).toArray }) clock ?_ ?_⟩
  ·simp only [Instr.mapUpdate, Sem.run_bind, run_underlying hu, Result.andThen_ok, Go.MapKept.run_getObj_map hM.at_, hck, h1, hesj, Option.map_some, Option.getD_some, h5, hst, Go.MapKept.run_setObj_map _ hM.at_]
  ·rw [hput]
   refine ⟨hM.is, by simp [hbl], by have := hM.len; simp at this ⊢; exact this, fun i e' he => ?_, ?_, ?_⟩
   ·rw [hmod] at he
    by_cases hji : j = i
    ·subst hji
     rw [if_pos rfl, h4] at he
     simp at he
     subst he
     have hd : (l.map (fun r => bif decide (r.take 1 = [m]) then m :: vc else r)).getD j [] = m :: vc := by
      rw [List.getD_eq_getElem?_getD, List.getElem?_map, h2]
      simp [h3]
     rw [hd]
     exact ⟨rfl, AV.denL E cs, rfl, z1, hnew _ _⟩
    ·rw [if_neg hji] at he
     have hil : i < l.length := by rw [← hM.len]; exact (List.getElem?_eq_some_iff.1 he).1
     have hne : ¬ (l[i]).take 1 = [m] := fun hk => hji (uniqj i _ (List.getElem?_eq_getElem hil) hk).symm
     have hd : (l.map (fun r => bif decide (r.take 1 = [m]) then m :: vc else r)).getD i [] = l.getD i [] := by
      rw [List.getD_eq_getElem?_getD, List.getElem?_map, List.getD_eq_getElem?_getD, List.getElem?_eq_getElem hil]
      simp [hne]
     rw [hd]
     exact ⟨(hM.ents i e' he).1, hold _ _ i e' he⟩
   ·intro r hr
    obtain ⟨r0, hr0, rfl⟩ := List.mem_map.1 hr
    cases decide (r0.take 1 = [m]) with
    | true => simp
    | false => exact hM.wf r0 hr0
   ·rw [List.map_map]
    have : ((fun r : List Int => r.take 1) ∘ fun r => bif decide (r.take 1 = [m]) then m :: vc else r) = fun r => r.take 1 := by funext r; exact htk r
    rw [this]; exact hM.nodup
  ·intro e' he
   obtain ⟨i, hi⟩ := List.mem_iff_getElem?.1 he
   rw [hmod] at hi
   by_cases hji : j = i
   ·subst hji
    rw [if_pos rfl, h4] at hi
    simp at hi
    subst hi
    exact .inr rfl
   ·rw [if_neg hji] at hi
    exact .inl ⟨e', List.mem_of_getElem? hi, rfl⟩
end
end Go.Sy
set_option linter.unusedVariables false
namespace Go.Sy
open Go.RowKit
section
variable {P : Program} {X : List (Nat × Go.Obj)} {E : Env} {w0 w : World} {objs : List Obj} {n K : Nat} {ρ : Operand → Option AV} {e : Operand → Value}
theorem xgO (hE : ∀ k, (E k).oneCell' = true) {rm : List Nat} {v v' : Value} {w' : World} {b : Body} {p : Option Prop} (hrm : (rm = [] ∧ blkO v = none) ∨ ∃ key, rm = [key] ∧ v = E key) (h1 : v'.oneCell' = true)
  (hb : xaU (fun k => if k = K then v' else E k) w' K true b) (hc : Chg w w' (blkO v).toList) (hblk : ∀ g, blkO v' = some g → w.heap.size ≤ g ∨ blkO v = some g) (hf : xmL b = true := by rfl) : xen E objs w K ⟨p, rm, 1, [⟨K, K, true, b⟩], .sl K⟩ (fun k => if k = K then v' else E k) w' := by
 refine ⟨fun k hk => if_neg (by simp at hk; omega), fun k => ?_, ?_, ?_, ?_, ?_, ?_, ?_, ?_, ?_⟩
 ·by_cases hk : k = K
  ·simp [hk, h1]
  ·simp [hk, hE k]
 ·rcases hrm with ⟨rfl, h0⟩ | ⟨key, rfl, rfl⟩
  ·rw [h0] at hc; exact hc
  ·cases hg : blkO (E key) with
   | none => rw [hg] at hc; simpa [hg] using hc
   | some g => rw [hg] at hc; simpa [hg] using hc
 ·intro o ho; simp at ho; subst ho; exact hb
 ·intro o ho _ g hg; simp at ho; subst ho; simp at hg
  rcases hblk g hg with h | h
  ·exact .inl h
  ·rcases hrm with ⟨rfl, h0⟩ | ⟨key, rfl, rfl⟩
   ·rw [h0] at h; cases h
   ·exact .inr ⟨key, by simp, h⟩
 ·intro o ho hf; simp at ho; subst ho; cases hf
 ·intro o ho o' ho' _ hne; simp at ho ho'; subst ho; subst ho'; exact absurd rfl hne
 ·intro o ho g hg; simp at ho; subst ho; exact xcF hf hg
 ·intro o ho g hg; simp at ho; subst ho; exact xcF hf hg
 ·intro o ho g hg; simp at ho; subst ho; exact xk6 hf hg
theorem xdr {rm : List Nat} {b : Body} {p : Option Prop} (hrm : ∀ k ∈ rm, ∃ o ∈ objs, o.key = k ∧ o.own = true) (hb : xaY (fun k => k < n) b) : xc3 n objs K ⟨p, rm, 1, [⟨K, K, true, b⟩], .sl K⟩ := by
 refine ⟨hrm, ?_, ?_, ?_, Or.inr (Nat.lt_succ_self _), ?_⟩
 ·intro o ho; simp at ho; subst ho; exact .inr ⟨Nat.le_refl _, Nat.lt_succ_self _⟩
 ·intro o ho o' ho' _; simp at ho ho'; subst ho; subst ho'; rfl
 ·intro o ho; simp at ho; subst ho; exact xaQ (fun k hk => .inl hk) hb
 ·intro o ho; simp at ho; subst ho; exact Nat.le_refl _
theorem xt0 {els : List (List AV)} (hE : ∀ k, (E k).oneCell' = true) (h : els.flatten.all AV.scalar = true) : ∀ u ∈ AV.denL E els.flatten, u.oneCell' = true := by
 intro u hu
 rw [xaq] at hu
 obtain ⟨c, hc, rfl⟩ := List.mem_map.1 hu
 exact xp3 (List.all_eq_true.1 h c hc) hE
theorem xfO (hH : xaf X E w0 ⟨objs, n⟩ w) {t ty te : TypeId} {ie : TypeInfo} (ht : P.underlying t = some (.slice te)) (hi : P.info? te = some ie) {b2 : Body} (hok : xpu te ie b2 = true)
  {v v2 : Value} {own2 : Bool} {m m2 sz : Nat} {vs ws : List Value} {e1 e2 : TypeId} (hsz : sz = ie.size) (he1 : e1 = te) (ho : xeA w e1 sz v m vs) (hl : vs.length = m * sz) (hs : xaT w own2 e2 sz v2 m2 ws) (h1 : ∀ u ∈ ws, u.oneCell' = true) (hf : xbJ ie.bytes (m + m2)) :
  ∃ v' w', (Builtin.append_ #[t, t] ty #[v, v2]).run P w = .ok v' w' ∧ xaT w' true te sz v' (m + m2) (vs ++ ws) ∧ Chg w w' (blkO v).toList ∧ (∀ b, blkO v' = some b → w.heap.size ≤ b ∨ blkO v = some b) ∧ v'.oneCell' = true := by
 subst hsz; subst he1
 unfold xpu at hok
 rw [Bool.and_eq_true] at hok
 obtain ⟨h2, h3⟩ := hok
 cases hz : ie.zero with
 | none => rw [hz] at h2; cases h2
 | some z =>
  rw [hz] at h2
  have hzs : z.cells.size = ie.size := Nat.eq_of_beq_eq_true h2
  have h0 : ie.size ≠ 0 := by
   intro e0
   cases b2 <;> simp [e0] at h3
  obtain ⟨v', w', hr, ho', hc, hb, h1'⟩ := xm2 (P := P) (ty := ty) ht hi hz hzs h0 ho hl hs.reads hs.len h1 hf
  exact ⟨v', w', hr, xct ho' (by rw [List.length_append, hl, hs.len, Nat.add_mul]), hc, hb, h1'⟩
theorem xpt {te e2 : TypeId} {ie : TypeInfo} {ks : List CK} {l : List (List Int)} (h : xpu te ie (.row e2 ks l) = true) : e2 = te ∧ ks.length = ie.size := by
 unfold xpu at h
 rw [Bool.and_eq_true] at h
 have h3 := h.2
 simp only [Bool.and_eq_true] at h3
 exact ⟨Nat.eq_of_beq_eq_true h3.1.1, Nat.eq_of_beq_eq_true h3.1.2⟩
theorem xl7 {te e2 : TypeId} {ie : TypeInfo} {sz : Nat} {els : List (List AV)} (h : xpu te ie (.arr e2 sz els) = true) : e2 = te ∧ sz = ie.size := by
 unfold xpu at h
 rw [Bool.and_eq_true] at h
 have h3 := h.2
 simp only [Bool.and_eq_true] at h3
 exact ⟨Nat.eq_of_beq_eq_true h3.1.1, Nat.eq_of_beq_eq_true h3.1.2⟩
theorem xt1 {te e2 : TypeId} {ie : TypeInfo} {ks : List CK} {l : List (List Int)} {b : Body} (h : xpu te ie b = true) (hr : xdk P b = some (e2, ks, l)) : e2 = te ∧ ks.length = ie.size := by
 cases b with
 | row => cases hr; exact xpt h
 | sub => unfold xpu at h; rw [Bool.and_eq_true] at h; cases h.2
 | nst => cases hr
 | arr e' sz els =>
  obtain ⟨h1, h2⟩ := xl7 h
  simp only [xdk] at hr
  cases hk : xnM P 9 e' with
  | none => rw [hk] at hr; cases hr
  | some ks' =>
   rw [hk] at hr
   simp only [] at hr
   split at hr
   ·rename_i hl
    cases hc : xsL ks' els with
    | none => rw [hc] at hr; cases hr
    | some l' => rw [hc] at hr; cases hr; exact ⟨h1, by rw [hl, h2]⟩
   ·cases hr
 | cells => cases hr
 | nil => cases hr
 | mp => cases hr
 | mq => cases hr
 | fin => cases hr
 | loop => cases hr
def xzu (E : Env) (w : World) (own : Bool) (v : Value) : Body → Prop
 | .row e ks l => xaT w own e ks.length v l.length (rowV ks l)
 | .sub e ks l => xaT w own e ks.length v l.length (rowV ks l)
 | .arr e sz els => xaT w own e sz v els.length (AV.denL E els.flatten) ∧ (∀ el ∈ els, el.length = sz) ∧ els.flatten.all AV.scalar = true
 | _ => True
theorem xoo {b : Body} {e : TypeId} {ks : List CK} {l : List (List Int)} {own : Bool} {v : Value} (h : xdk P b = some (e, ks, l)) (hb : xzu E w own v b) : xaT w own e ks.length v l.length (rowV ks l) := by
 cases b with
 | row => cases h; exact hb
 | sub => cases h; exact hb
 | nst => cases h
 | arr e' sz els =>
  simp only [xdk] at h
  cases hk : xnM P 9 e' with
  | none => rw [hk] at h; cases h
  | some ks' =>
   rw [hk] at h
   simp only [] at h
   split at h
   ·rename_i hl
    cases hc : xsL ks' els with
    | none => rw [hc] at h; cases h
    | some l' =>
     rw [hc] at h
     cases h
     obtain ⟨h1, h2⟩ := xl1 E hc
     have := hb.1
     rw [h1, ← h2, ← hl] at this
     exact this
   ·cases h
 | cells => cases h
 | nil => cases h
 | mp => cases h
 | mq => cases h
 | fin => cases h
 | loop => cases h
theorem xrF (hH : xaf X E w0 ⟨objs, n⟩ w) (hfr : ∀ o ∈ objs, o.key ≠ K ∧ xaY (fun k => k ≠ K) o.body) {t ty te : TypeId} {ie : TypeInfo} (ht : P.underlying t = some (.slice te)) (hi : P.info? te = some ie) {s : AV} {x : Eff} {k2 : Nat} {own2 : Bool} {b2 : Body} {v2 : Value}
  (hb2 : xzu E w own2 v2 b2) (hlt2 : xaY (fun k => k < n) b2) (hfr2 : xaY (fun k => k ≠ K) b2) (hok : xpu te ie b2 = true) (h : xld P K ie.bytes s (tgtA objs s) k2 b2 = some x) :
  xc3 n objs K x ∧ x.nk ≤ 1 ∧ (x.holds → ∃ E' w', (Builtin.append_ #[t, t] ty #[s.den E, v2]).run P w = .ok (x.v.den E') w' ∧ xen E objs w K x E' w') := by
 have hEK : ∀ (u : Value) (l : List AV), AV.allL (fun k => k ≠ K) l → AV.denL (fun k => if k = K then u else E k) l = AV.denL E l := fun u l hl => xbS (fun k (hk : k ≠ K) => if_neg hk) l hl
 have newrow : ∀ {u : Value} {w' : World} {ks : List CK} {l : List (List Int)} {e1 : TypeId}, xaT w' true e1 ks.length u l.length (rowV ks l) → xaU (fun k => if k = K then u else E k) w' K true (.row e1 ks l) := by
  intro u w' ks l e1 hr
  show xaT w' true e1 ks.length (if K = K then u else E K) l.length (rowV ks l)
  rw [if_pos rfl]; exact hr
 have newarr : ∀ {u : Value} {w' : World} {sz : Nat} {els : List (List AV)} {e1 : TypeId}, xaT w' true e1 sz u els.length (AV.denL E els.flatten) → (∀ el ∈ els, el.length = sz) → els.flatten.all AV.scalar = true → AV.allL (fun k => k ≠ K) els.flatten → xaU (fun k => if k = K then u else E k) w' K true (.arr e1 sz els) := by
  intro u w' sz els e1 hr h1 h2 h3
  refine ⟨?_, h1, h2⟩
  rw [hEK _ _ h3]; simp only [if_true]; exact hr
 unfold xld at h
 split at h
 ·-- nil object, arr
  rename_i key k0 ver e2 sz2 els2 hf
  by_cases hc : key ≠ k2 ∧ xbJ ie.bytes els2.length
  case neg => rw [if_neg hc] at h; cases h
  rw [if_pos hc] at h
  cases h
  obtain ⟨hm, hk⟩ := xai hf
  have hk : k0 = key := hk
  subst hk
  have hnil : E k0 = .slice none 0 0 := hH.objs _ hm
  obtain ⟨rfl, hsz⟩ := xl7 hok
  obtain ⟨r1, r2, r3⟩ := hb2
  refine ⟨xdr (fun k hk => by simp at hk; subst hk; exact ⟨_, hm, rfl, rfl⟩) hlt2, Nat.le_refl _, fun _ => ?_⟩
  obtain ⟨v', w', hr, hro, hch, hbl, h1⟩ := xfO hH (ty := ty) ht hi hok (v := E k0) (m := 0) (vs := []) hsz rfl (.inl ⟨none, hnil, rfl⟩) (by simp) r1 (xt0 hH.env r3) (by simpa using hc.2)
  refine ⟨_, w', by simp only [AV.den, if_true]; exact hr, xgO hH.env (.inr ⟨k0, rfl, rfl⟩) h1 (newarr (by simpa using hro) r2 r3 hfr2) hch hbl⟩
 ·-- nil object, row
  rename_i key k0 ver e2 ks2 l2 hf
  by_cases hc : key ≠ k2
  case neg => rw [if_neg hc] at h; cases h
  rw [if_pos hc] at h
  cases h
  obtain ⟨hm, hk⟩ := xai hf
  have hk : k0 = key := hk
  subst hk
  have hnil : E k0 = .slice none 0 0 := hH.objs _ hm
  obtain ⟨rfl, hsz⟩ := xpt hok
  refine ⟨xdr (fun k hk => by simp at hk; subst hk; exact ⟨_, hm, rfl, rfl⟩) xby, Nat.le_refl _, fun hp => ?_⟩
  have hp : xbJ ie.bytes l2.length := hp
  obtain ⟨v', w', hr, hro, hch, hbl, h1⟩ := xfO hH (ty := ty) ht hi hok (v := E k0) (m := 0) (vs := []) hsz rfl (.inl ⟨none, hnil, rfl⟩) (by simp) hb2 (xlm _ _) (by simpa using hp)
  refine ⟨_, w', by simp only [AV.den, if_true]; exact hr, xgO hH.env (.inr ⟨k0, rfl, rfl⟩) h1 (newrow (by simpa using hro)) hch hbl⟩
 ·-- nil, arr
  rename_i e2 sz2 els2
  by_cases hc : xbJ ie.bytes els2.length
  case neg => rw [if_neg hc] at h; cases h
  rw [if_pos hc] at h
  cases h
  obtain ⟨rfl, hsz⟩ := xl7 hok
  obtain ⟨r1, r2, r3⟩ := hb2
  refine ⟨xdr (by simp) hlt2, Nat.le_refl _, fun _ => ?_⟩
  obtain ⟨v', w', hr, hro, hch, hbl, h1⟩ := xfO hH (ty := ty) ht hi hok (v := .slice none 0 0) (m := 0) (vs := []) hsz rfl (.inl ⟨none, rfl, rfl⟩) (by simp) r1 (xt0 hH.env r3) (by simpa using hc)
  refine ⟨_, w', by simp only [AV.den, if_true]; exact hr, xgO hH.env (.inl ⟨rfl, rfl⟩) h1 (newarr (by simpa using hro) r2 r3 hfr2) hch hbl⟩
 ·-- nil, row
  rename_i e2 ks2 l2
  cases h
  obtain ⟨rfl, hsz⟩ := xpt hok
  refine ⟨xdr (by simp) xby, Nat.le_refl _, fun hp => ?_⟩
  have hp : xbJ ie.bytes l2.length := hp
  obtain ⟨v', w', hr, hro, hch, hbl, h1⟩ := xfO hH (ty := ty) ht hi hok (v := .slice none 0 0) (m := 0) (vs := []) hsz rfl (.inl ⟨none, rfl, rfl⟩) (by simp) hb2 (xlm _ _) (by simpa using hp)
  refine ⟨_, w', by simp only [AV.den, if_true]; exact hr, xgO hH.env (.inl ⟨rfl, rfl⟩) h1 (newrow (by simpa using hro)) hch hbl⟩
 ·-- arr, arr
  rename_i key k0 ver e1 sz1 els1 e2 sz2 els2 hf
  by_cases hc : key ≠ k2 ∧ e1 = e2 ∧ sz1 = sz2 ∧ xbJ ie.bytes (els1.length + els2.length)
  case neg => rw [if_neg hc] at h; cases h
  rw [if_pos hc] at h
  cases h
  obtain ⟨_, rfl, rfl, hfit⟩ := hc
  obtain ⟨hm, hk⟩ := xai hf
  have hk : k0 = key := hk
  subst hk
  obtain ⟨q1, q2, q3⟩ := hH.objs _ hm
  have hfr1 := hfr _ hm
  have hlt1 := (hH.lt _ hm).2
  obtain ⟨rfl, hsz⟩ := xl7 hok
  obtain ⟨r1, r2, r3⟩ := hb2
  have hall : ∀ {p : Nat → Prop}, AV.allL p els1.flatten → AV.allL p els2.flatten → AV.allL p (els1 ++ els2).flatten := by
   intro p h1 h2
   rw [List.flatten_append, xd6] at *
   intro a ha
   rcases List.mem_append.1 ha with ha | ha
   ·exact h1 a ha
   ·exact h2 a ha
  refine ⟨xdr (fun k hk => by simp at hk; subst hk; exact ⟨_, hm, rfl, rfl⟩) (hall hlt1 hlt2), Nat.le_refl _, fun _ => ?_⟩
  obtain ⟨v', w', hr, hro, hch, hbl, h1⟩ := xfO hH (ty := ty) ht hi hok hsz rfl (q1.own rfl) q1.len r1 (xt0 hH.env r3) hfit
  refine ⟨_, w', by simp only [AV.den, if_true]; exact hr, xgO hH.env (.inr ⟨k0, rfl, rfl⟩) h1 (newarr ?_ ?_ ?_ (hall hfr1.2 hfr2)) hch hbl⟩
  ·rw [List.length_append, List.flatten_append, xaq, List.map_append, ← xaq, ← xaq]
   exact hro
  ·intro el hel
   rcases List.mem_append.1 hel with hel | hel
   ·exact q2 el hel
   ·exact r2 el hel
  ·rw [List.flatten_append, List.all_append, q3, r3]; rfl
 ·-- rows
  rename_i key k0 ver b1 _ _ _ hf
  split at h
  ·rename_i e1 ks1 l1 e2 ks2 l2 hr1 hr2
   by_cases hc : key ≠ k2 ∧ e1 = e2 ∧ ks1 = ks2
   case neg => rw [if_neg hc] at h; cases h
   rw [if_pos hc] at h
   cases h
   obtain ⟨_, rfl, rfl⟩ := hc
   obtain ⟨hm, hk⟩ := xai hf
   have hk : k0 = key := hk
   subst hk
   have q := xbx hr1 (hH.objs _ hm)
   have r := xoo hr2 hb2
   obtain ⟨rfl, hsz⟩ := xt1 hok hr2
   refine ⟨xdr (fun k hk => by simp at hk; subst hk; exact ⟨_, hm, rfl, rfl⟩) xby, Nat.le_refl _, fun hp => ?_⟩
   have hp : xbJ ie.bytes (l1.length + l2.length) := hp
   obtain ⟨v', w', hr, hro, hch, hbl, h1⟩ := xfO hH (ty := ty) ht hi hok hsz rfl (q.own rfl) q.len r (xlm _ _) hp
   refine ⟨_, w', by simp only [AV.den, if_true]; exact hr, xgO hH.env (.inr ⟨k0, rfl, rfl⟩) h1 (newrow ?_) hch hbl⟩
   rw [List.length_append, xkP]
   exact hro
  ·cases h
 ·cases h
theorem xsX (hH : xaf X E w0 ⟨objs, n⟩ w) (hfr : ∀ o ∈ objs, o.key ≠ K ∧ xaY (fun k => k ≠ K) o.body) {bytes : Nat} {s : AV} {x : Eff} {k2 : Nat} {b2 : Body}
  (hlt2 : xaY (fun k => k < n) b2) (h : xld P K bytes s (tgtA objs s) k2 b2 = some x) : xc3 n objs K x ∧ x.nk ≤ 1 := by
 have own1 : ∀ {key k0 ver : Nat} {b : Body}, xah key objs = some ⟨k0, ver, true, b⟩ → ∀ k ∈ [key], ∃ o ∈ objs, o.key = k ∧ o.own = true := by
  intro key k0 ver b hf k hk
  simp at hk; subst hk
  obtain ⟨hm, hk⟩ := xai hf
  exact ⟨_, hm, hk, rfl⟩
 unfold xld at h
 split at h
 ·rename_i hf
  split at h
  ·cases h; exact ⟨xdr (own1 hf) hlt2, Nat.le_refl _⟩
  ·cases h
 ·rename_i hf
  split at h
  ·cases h; exact ⟨xdr (own1 hf) xby, Nat.le_refl _⟩
  ·cases h
 ·split at h
  ·cases h; exact ⟨xdr (by simp) hlt2, Nat.le_refl _⟩
  ·cases h
 ·cases h; exact ⟨xdr (by simp) xby, Nat.le_refl _⟩
 ·rename_i key k0 ver e1 sz1 els1 e2 sz2 els2 hf
  split at h
  ·cases h
   obtain ⟨hm, hk⟩ := xai hf
   have hlt1 := (hH.lt _ hm).2
   refine ⟨xdr (own1 hf) ?_, Nat.le_refl _⟩
   show AV.allL _ (els1 ++ els2).flatten
   have h1 : AV.allL (fun k => k < n) els1.flatten := hlt1
   have h2 : AV.allL (fun k => k < n) els2.flatten := hlt2
   rw [List.flatten_append, xd6] at *
   intro a ha
   rcases List.mem_append.1 ha with ha | ha
   ·exact h1 a ha
   ·exact h2 a ha
  ·cases h
 ·rename_i hf
  split at h
  ·split at h
   ·cases h; exact ⟨xdr (own1 hf) xby, Nat.le_refl _⟩
   ·cases h
  ·cases h
 ·cases h
theorem xmf (hH : xaf X E w0 ⟨objs, n⟩ w) {y : AV} {k2 : Nat} {b2 : Body} {p : Option Prop} (h : srcA P objs y = some (k2, b2, p)) :
  ∃ o ∈ objs, o.key = k2 ∧ (b2 = o.body ∨ ∃ e ks l, b2 = .row e ks l) ∧ (xlO p → xzu E w false (y.den E) b2) := by
 have weaken : ∀ {own : Bool} {e : TypeId} {sz : Nat} {v : Value} {m : Nat} {vs : List Value}, xaT w own e sz v m vs → xaT w false e sz v m vs := fun h => ⟨h.reads, h.len, fun h => by cases h⟩
 cases y with
 | sl key =>
  simp only [srcA] at h
  split at h
  ·rename_i o hf
   cases h
   obtain ⟨hm, hk⟩ := xai hf
   subst hk
   refine ⟨o, hm, rfl, ?_, fun _ => ?_⟩
   ·cases hb : o.body <;> first | exact .inl rfl | exact .inr ⟨_, _, _, rfl⟩
   have := hH.objs _ hm
   simp only [AV.den]
   revert this
   generalize o.body = b
   intro this
   cases b with
   | row => exact weaken this
   | sub => exact weaken this.2
   | arr => exact ⟨weaken this.1, this.2⟩
   | _ => trivial
  ·cases h
 | vw key sz lo hi =>
  simp only [srcA] at h
  split at h
  ·rename_i o hf
   split at h
   ·rename_i e ks l hr
    split at h
    ·rename_i hks
     cases h
     obtain ⟨hm, hk⟩ := xai hf
     subst hk
     refine ⟨o, hm, rfl, .inr ⟨_, _, _, rfl⟩, fun hp => ?_⟩
     have := xxE (xbx hr (hH.objs _ hm)) (lo := lo) (hi := hi) hp
     rw [hks] at this
     show xaT w false e ks.length _ _ _
     rw [hks]
     exact this
    ·cases h
   ·cases h
  ·cases h
 | _ => cases h
theorem xpr (hH : xaf X E w0 ⟨objs, n⟩ w) (hfr : ∀ o ∈ objs, o.key ≠ K ∧ xaY (fun k => k ≠ K) o.body) {t ty : TypeId} {s y : AV} {x : Eff} (h : xf1 P objs K t s y = some x) :
  xc3 n objs K x ∧ x.nk ≤ 1 ∧ (x.holds → ∃ E' w', (Builtin.append_ #[t, t] ty #[s.den E, y.den E]).run P w = .ok (x.v.den E') w' ∧ xen E objs w K x E' w') := by
 unfold xf1 at h
 split at h
 case h_2 => cases h
 rename_i key2 b2 p hsrc
 split at h
 case h_2 => cases h
 rename_i te ht
 cases hi : P.info? te with
 | none => rw [hi] at h; cases h
 | some ie =>
 rw [hi] at h
 simp only [] at h
 by_cases hok : xpu te ie b2 = true
 case neg => rw [if_neg hok] at h; cases h
 rw [if_pos hok] at h
 obtain ⟨o2, hm2, rfl, hbody, hso⟩ := xmf hH hsrc
 have hlt2 : xaY (fun k => k < n) b2 := by
  rcases hbody with rfl | ⟨_, _, _, rfl⟩
  ·exact (hH.lt _ hm2).2
  ·exact xby
 have hfr2 : xaY (fun k => k ≠ K) b2 := by
  rcases hbody with rfl | ⟨_, _, _, rfl⟩
  ·exact (hfr _ hm2).2
  ·exact xby
 obtain ⟨z, hz, rfl⟩ := Option.map_eq_some_iff.1 h
 have wf : xc3 n objs K z → xc3 n objs K { z with p := xpT p z.p } := fun h => ⟨h.rm, h.key, h.uniq, h.all, h.val, h.ver⟩
 have ok : ∀ {E' : Env} {w' : World}, xen E objs w K z E' w' → xen E objs w K { z with p := xpT p z.p } E' w' := fun h => ⟨h.agree, h.env, h.chg, h.bodies, h.own, h.ro, h.inj, h.dp, h.dq, h.df⟩
 have split_ : ({ z with p := xpT p z.p } : Eff).holds → xlO p ∧ z.holds := by
  intro h
  obtain ⟨zp, _, _, _, _⟩ := z
  cases p with
  | none => exact ⟨trivial, h⟩
  | some p => cases zp with
   | none => exact ⟨h, trivial⟩
   | some q => exact h
 by_cases hp : xlO p
 ·obtain ⟨a1, a2, a3⟩ := xrF (ty := ty) hH hfr ht hi (hso hp) hlt2 hfr2 hok hz
  refine ⟨wf a1, a2, fun hh => ?_⟩
  obtain ⟨E', w', r1, r2⟩ := a3 (split_ hh).2
  exact ⟨E', w', r1, ok r2⟩
 ·-- the form alone
  obtain ⟨f1, f2⟩ := xsX hH hfr hlt2 hz
  exact ⟨wf f1, f2, fun hh => absurd (split_ hh).1 hp⟩
theorem xmV {p q : Option Prop} (h : xlO (xpT p q)) : xlO p ∧ xlO q := by
 cases p with
 | none => exact ⟨trivial, h⟩
 | some p => cases q with
  | none => exact ⟨h, trivial⟩
  | some q => exact h
theorem xpp (hH : xaf X E w0 ⟨objs, n⟩ w) {t ty : TypeId} {s y : AV} {x : Eff} (hs : AV.all (fun k => k < n) s) (h : xig P objs K t s y = some x) :
  xc3 n objs K x ∧ x.nk = 0 ∧ (x.holds → ∃ w', (Builtin.append_ #[t, t] ty #[s.den E, y.den E]).run P w = .ok (x.v.den E) w' ∧ xen E objs w K x E w') := by
 obtain ⟨key, sz, lo, hi, rfl⟩ : ∃ key sz lo hi, s = .vw key sz lo hi := by cases s <;> first | exact ⟨_, _, _, _, rfl⟩ | cases h
 unfold xig at h
 simp only [] at h
 split at h
 case h_2 => cases h
 rename_i k2 b2 p hsrc
 split at h
 case h_2 => cases h
 rename_i e2 ks2 l2 k0 ver b te hr2 hf ht
 split at h
 case h_2 => cases h
 rename_i e ks l ie hr hi'
 split at h
 case isFalse => cases h
 rename_i hc
 cases h
 obtain ⟨rfl, rfl, rfl, rfl, hsz, hne0⟩ := hc
 obtain ⟨hm, hk⟩ := xai hf
 have hk : k0 = key := hk
 subst hk
 have hrow : xaT w true e2 ks2.length (E k0) l.length (rowV ks2 l) := xbx hr (hH.objs _ hm)
 obtain ⟨o2, hm2, rfl, hbody, hso⟩ := xmf hH hsrc
 refine ⟨xjT ⟨_, hm, rfl, rfl⟩ xby hs, rfl, fun hp => ?_⟩
 obtain ⟨hp1, hp2⟩ := xmV (p := p) (q := some _) hp
 obtain ⟨⟨c1, c2⟩, c3⟩ : xvv l lo hi ∧ hi.toNat + l2.length ≤ l.length := hp2
 have src := xoo hr2 (hso hp1)
 obtain ⟨a2, cap2, hv2, _, _⟩ := src.reads.is
 have hspl : xgb l hi.toNat l2 = l.take hi.toNat ++ l2 ++ l.drop (hi.toNat + l2.length) := rfl
 by_cases hm0 : l2.length = 0
 ·have hl2 : l2 = [] := List.eq_nil_of_length_eq_zero hm0
  subst hl2
  have hs0 : xgb l hi.toNat [] = l := by simp [xgb]
  rw [hs0] at hspl
  refine ⟨w, ?_, xid hH.env (by rw [← hspl]; exact hrow) ⟨0, .inr (Chg.refl _ _)⟩⟩
  obtain ⟨a, c, hv, hmc, _⟩ := hrow.reads.is
  have hle : hi.toNat - loN lo ≤ c - loN lo := by omega
  rw [hv2]
  simp only [AV.den, xdC, hv, sliced, List.length_nil, Nat.add_zero, Int.toNat_natCast]
  generalize (if c = loN lo then a else a.map fun x => x.add (loN lo * ks2.length)) = a'
  cases a' with
  | none => cases a2 <;> simp [Builtin.append_, run_underlying ht, sizeOf, typeInfo, hi', Builtin.lenOf, Builtin.firstCells, loadCells, loadCellsFrom, hle]
  | some a' => cases a2 <;> simp [Builtin.append_, run_underlying ht, sizeOf, typeInfo, hi', Builtin.lenOf, Builtin.firstCells, loadCells, loadCellsFrom, storeCells, hle]
 ·rcases hrow.own rfl with ⟨a', ha, hn⟩ | ⟨g, cap, cur, hE', hg, hcap, hmax, hcs, htk⟩
  ·omega
  ·have hne : ¬ cap = loN lo := by omega
   have hcap0 : cap ≠ 0 := by omega
   have hrl : (rowV ks2 l2).length = l2.length * ks2.length := xaP _ _
   obtain ⟨u0, hu0⟩ : ∃ u0, (rowV ks2 l2)[0]? = some u0 := ⟨_, List.getElem?_eq_getElem (by rw [hrl]; exact Nat.mul_pos (by omega) (by omega))⟩
   obtain ⟨ad, had, _⟩ := src.reads.cell 0 u0 hu0
   rw [hv2] at had
   have had : a2 = some ad := had
   subst had
   have hnews : ∀ j u, (rowV ks2 l2)[j]? = some u → w.cell? (ad.add j) = some u := by
    intro j u hj
    obtain ⟨a', ha', hcl⟩ := src.reads.cell j u hj
    rw [hv2] at ha'
    cases ha'
    exact hcl
   have hfc := run_firstCells_some (P := P) w ks2.length l2.length ad l2.length cap2 (rowV ks2 l2) hrl hnews
   have hfit : hi.toNat * ks2.length + (rowV ks2 l2).length ≤ cur.size := by
    rw [hrl, ← Nat.add_mul, hcs]
    exact Nat.mul_le_mul_right _ (by omega)
   have hst := run_storeCells_at P g (hi.toNat * ks2.length) e2 (rowV ks2 l2) 0 cur w hg (by simpa using hfit) (xlm _ _)
   simp only [Nat.add_zero] at hst
   have hown := xqa (w := w) hE' hg hcap hmax hcs htk (lo := hi.toNat) (m := l2) c3
   refine ⟨_, ?_, xid hH.env (by rw [← hspl]; exact hown) ⟨g, .inl ⟨by rw [hE']; simp [blkO, hcap0], xkd _ _ _⟩⟩⟩
   have hroom : hi.toNat - loN lo + l2.length ≤ cap - loN lo := by omega
   have hadd : loN lo * ks2.length + (hi.toNat - loN lo) * ks2.length = hi.toNat * ks2.length := by rw [← Nat.add_mul]; congr 1; omega
   have hlen : hi.toNat - loN lo + l2.length = hi.toNat + l2.length - loN lo := by omega
   rw [hv2]
   simp only [AV.den, xdC, hE', sliced, if_neg hne, Option.map_some, xgn, Nat.zero_add, Int.toNat_natCast]
   have hst' : (storeCells ((⟨g, loN lo * ks2.length, none⟩ : Addr).add ((hi.toNat - loN lo) * ks2.length)) (rowV ks2 l2)).run P w = .ok () (w.setRow g (cur.toList.take (hi.toNat * ks2.length) ++ rowV ks2 l2 ++ cur.toList.drop (hi.toNat * ks2.length + (rowV ks2 l2).length)).toArray) := by rw [xgn, hadd]; exact hst
   have hroom2 : hi.toNat + l2.length - loN lo ≤ cap - loN lo := by omega
   simp [Builtin.append_, run_underlying ht, sizeOf, typeInfo, hi', Builtin.lenOf, hsz, hroom2, hfc, hst', hlen]
theorem xqL (hH : xaf X E w0 ⟨objs, n⟩ w) (hfr : ∀ o ∈ objs, o.key ≠ K) {v : AV} {x : Eff} (h : xqM P objs K v = some x) :
  xc3 n objs K x ∧ x.nk = 1 ∧ (x.holds → ∃ E', xen E objs w K x E' w ∧ x.v.den E' = v.den E) := by
 unfold xqM at h
 split at h
 case h_2 => cases h
 rename_i key sz hi
 split at h
 case h_2 => cases h
 rename_i k0 ver b hf
 split at h
 case h_2 => cases h
 rename_i e ks l hr
 split at h
 case isFalse => cases h
 rename_i hsz
 cases h
 subst hsz
 obtain ⟨hm, hk⟩ := xai hf
 have hk : k0 = key := hk
 subst hk
 have hrow : xaT w true e ks.length (E k0) l.length (rowV ks l) := xbx hr (hH.objs _ hm)
 refine ⟨xdr (fun k hk => by simp at hk; subst hk; exact ⟨_, hm, rfl, rfl⟩) xby, rfl, fun hp => ?_⟩
 obtain ⟨h1, h2⟩ : 0 ≤ hi ∧ hi ≤ (l.length : Int) := hp
 let v' : Value := xdC (E k0) ks.length 0 hi.toNat
 have h3 : hi.toNat ≤ l.length := by omega
 have htl : (l.take hi.toNat).length = hi.toNat := by simp; omega
 have hown : xeA w e ks.length v' hi.toNat (rowV ks (l.take hi.toNat)) ∧ ∀ g, blkO v' = some g → blkO (E k0) = some g := by
  rcases hrow.own rfl with ⟨a, ha, hn⟩ | ⟨g, cap, cur, hE', hg, hcap, hmax, hcs, htk⟩
  ·have h0 : hi.toNat = 0 := by omega
   refine ⟨.inl ⟨a, ?_, h0⟩, ?_⟩
   ·simp [v', xdC, ha, sliced, h0]
   ·intro g hg
    simp [v', xdC, ha, sliced, h0] at hg
    cases a <;> simp [blkO] at hg
  ·have hv' : v' = .slice (some ⟨g, 0, none⟩) hi.toNat cap := by
    simp only [v', xdC, hE', sliced, Nat.sub_zero, Nat.zero_mul, Option.map_some, xpy]
    split <;> rfl
   rw [hv', hE']
   refine ⟨.inr ⟨g, cap, cur, rfl, hg, by omega, hmax, hcs, ?_⟩, fun _ h => h⟩
   rw [xow, ← htk, List.take_take, Nat.min_eq_left (Nat.mul_le_mul_right _ h3)]
 have hro := xct hown.1 (by rw [xaP, htl])
 refine ⟨fun k => if k = K then v' else E k, xgO hH.env (.inr ⟨k0, rfl, rfl⟩) (xmo (hH.env _) _ _ _) ?_ (Chg.refl _ _) (fun g hg => .inr (hown.2 g hg)), ?_⟩
 ·show xaT w true e ks.length (if K = K then v' else E K) (l.take hi.toNat).length (rowV ks (l.take hi.toNat))
  rw [if_pos rfl, htl]; exact hro
 ·simp only [AV.den, if_true]; rfl
theorem xcu (hH : xaf X E w0 ⟨objs, n⟩ w) {o : Oper} {p : Option Prop} {v : AV} (hv : AV.all (fun k => k < n) v) (hr : (⟨p, [], 0, [], v⟩ : Eff).holds → (execOp e o).run P w = .ok (.value (v.den E)) w) :
  xc3 n objs K ⟨p, [], 0, [], v⟩ ∧ OpOk P E objs w K e o ⟨p, [], 0, [], v⟩ ∧ (⟨p, [], 0, [], v⟩ : Eff).nk ≤ 1 :=
 ⟨xic p (xds (fun k hk => .inl hk) v hv), fun hp => ⟨E, w, _, hr hp, .inl rfl, xie hH.env p v⟩, Nat.zero_le _⟩
theorem xty (hH : xaf X E w0 ⟨objs, n⟩ w) (op : BinOp) (k k' : IntKind) (hk : k = k' ∨ xre op = true) (a b : Int) (t yt : TypeId) (x y : Operand) (o : Oper) (ho : o.op = .binOp op t x y yt) (hx : e x = .int k a) (hy : e y = .int k' b) {z : Eff} (h : xxN op k a b = some z) :
  xc3 n objs K z ∧ OpOk P E objs w K e o z ∧ z.nk ≤ 1 := by
 have hs : ∀ op', xre op = true → op' = op → op' = .shl ∨ op' = .shr := by
  intro op' h1 h2; subst h2; cases op' <;> simp [xre] at h1 ⊢
 by_cases hsh : op = .shl ∨ op = .shr
 ·rcases hsh with rfl | rfl <;> simp only [xxN, chkE] at h <;> cases h <;> refine xcu hH trivial (fun hp => ?_) <;>
   (have hb : 0 ≤ b := hp; simp [execOp, ho, hx, hy, eqGuard, binOp, Op.shift, AV.den, bShl, Int.not_lt.2 hb]; done)
 ·have hkk : k = k' := hk.elim id fun h => absurd (hs op h rfl) hsh
  subst hkk
  have b1 : Op.intBits .and k a b = pure (.int k (bAnd k a b)) := rfl
  have b2 : Op.intBits .or k a b = pure (.int k (bOr k a b)) := rfl
  have b3 : Op.intBits .xor k a b = pure (.int k (bXor k a b)) := rfl
  have b4 : Op.intBits .andNot k a b = pure (.int k (bNot k a b)) := rfl
  cases op <;> simp only [xxN, okE, chkE] at h <;> cases h <;> first
   | exact absurd (.inl rfl) hsh
   | exact absurd (.inr rfl) hsh
   | (refine xcu hH trivial (fun hp => ?_); first
    | (simp [execOp, ho, hx, hy, eqGuard, binOp, Op.intArith, Op.intCmp, AV.den]; done)
    | (simp only [execOp, ho, hx, hy, eqGuard, binOp, b1, b2, b3, b4, AV.den]; simp; done)
    | (have hb : b ≠ 0 := hp; simp [execOp, ho, hx, hy, eqGuard, binOp, Op.intDiv, AV.den, hb]; done))
theorem xi6 (hH : xaf X E w0 ⟨objs, n⟩ w) {d : Nat} {v : AV} {z : Eff} (hv : AV.all (fun k => k < n) v) (h : xfM P objs d v = some z) :
  ∃ p u, z = ⟨p, [], 0, [], u⟩ ∧ AV.all (fun k => k < n) u ∧ (z.holds → ∃ a, v.den E = .pointer (some a) ∧ u.den E = .pointer (some (a.add d))) := by
 have key : ∀ {key : Nat} {own : Bool} {te : TypeId} {sz' m : Nat} {vs : List Value} {sz : Nat} {kn : Bool} {i : Int} {off : Nat}, xaT w own te sz' (E key) m vs → 0 < vs.length →
   ∃ a, (AV.ix key sz kn i off).den E = .pointer (some a) ∧ (AV.ix key sz kn i (off + d)).den E = .pointer (some (a.add d)) := by
  intro key own te sz' m vs sz kn i off hr hpos
  obtain ⟨a, ha, _⟩ := hr.reads.cell 0 vs[0] (List.getElem?_eq_getElem hpos)
  exact ⟨a.add (i.toNat * sz + off), by simp only [AV.den, ha, Option.map_some], by simp only [AV.den, ha, Option.map_some, xiM, Nat.add_assoc]⟩
 unfold xfM at h
 split at h
 ·rename_i key off
  cases h
  exact ⟨_, _, rfl, hv, fun _ => ⟨_, rfl, by simp [AV.den, xgn]⟩⟩
 ·rename_i key sz kn i off
  cases hf : xah key objs with
  | none => rw [hf] at h; cases h
  | some o =>
  rw [hf] at h
  simp only [] at h
  obtain ⟨hm, hk⟩ := xai hf
  subst hk
  have hb := hH.objs _ hm
  obtain ⟨k0, ver, own, b⟩ := o
  simp only [] at h hb hv
  cases b with
  | arr e sz' els =>
   obtain ⟨h1, h2, h3⟩ := hb
   cases kn with
   | true =>
    simp only [] at h
    split at h
    ·rename_i hc
     cases h
     exact ⟨_, _, rfl, hv, fun _ => key h1 (by rw [h1.len]; exact Nat.mul_pos (by omega) (by omega))⟩
    ·cases h
   | false =>
    simp only [] at h
    split at h
    ·rename_i e2 ks l hr
     split at h
     ·rename_i hks
      cases h
      refine ⟨_, _, rfl, hv, fun hp => ?_⟩
      have hp : inR i l := hp
      have hrow := xbx (E := E) (w := w) (key := k0) (own := own) hr ⟨h1, h2, h3⟩
      have : 0 < ks.length := List.length_pos_iff.2 hks
      exact key hrow (by rw [hrow.len]; exact Nat.mul_pos (by have := hp.1; have := hp.2; omega) this)
     ·cases h
    ·cases h
  | row e ks l =>
   simp only [] at h
   split at h
   ·rename_i hks
    cases h
    refine ⟨_, _, rfl, hv, fun hp => ?_⟩
    have hp : inR i l := hp
    have hrow : xaT w own e ks.length (E k0) l.length (rowV ks l) := hb
    have : 0 < ks.length := List.length_pos_iff.2 hks
    exact key hrow (by rw [hrow.len]; exact Nat.mul_pos (by have := hp.1; have := hp.2; omega) this)
   ·cases h
  | sub e ks l =>
   simp only [] at h
   split at h
   ·rename_i hks
    cases h
    refine ⟨_, _, rfl, hv, fun hp => ?_⟩
    have hp : inR i l := hp
    have hrow : xaT w own e ks.length (E k0) l.length (rowV ks l) := hb.2
    have : 0 < ks.length := List.length_pos_iff.2 hks
    exact key hrow (by rw [hrow.len]; exact Nat.mul_pos (by have := hp.1; have := hp.2; omega) this)
   ·cases h
  | nst e ks l =>
   simp only [] at h
   split at h
   ·rename_i hks
    cases h
    refine ⟨_, _, rfl, hv, fun hp => ?_⟩
    have hp : inR i l := hp
    obtain ⟨vs, hb⟩ := hb
    have hrow := hb.row
    have : 0 < ks.length := List.length_pos_iff.2 hks
    exact key hrow (by rw [hrow.len]; exact Nat.mul_pos (by have := hp.1; have := hp.2; omega) this)
   ·cases h
  | cells => cases h
  | nil => cases h
  | mp => cases h
  | mq => cases h
  | fin => cases h
  | loop => cases h
 ·cases h
theorem xnV (hH : xaf X E w0 ⟨objs, n⟩ w) {t : TypeId} {a i : AV} {x : Eff} (ha : AV.all (fun k => k < n) a) (h : xgs P objs t a i = some x) :
  ∃ p u, x = ⟨p, [], 0, [], u⟩ ∧ AV.all (fun k => k < n) u ∧ (x.holds → (Instr.indexAt t (a.den E) (i.den E)).run P w = .ok (u.den E) w) := by
 unfold xgs at h
 split at h
 ·rename_i d hd
  obtain ⟨p, u, rfl, hu, hr⟩ := xi6 hH ha h
  refine ⟨p, u, rfl, hu, fun hp => ?_⟩
  obtain ⟨a0, h1, h2⟩ := hr hp
  unfold xAc at hd
  split at hd
  ·rename_i len e key sz0 kn i0 off k m hu'
   split at hd
   ·rename_i sz hsz
    split at hd
    ·rename_i hb
     cases hd
     rw [h1, h2]
     simp only [Instr.indexAt, AV.den, asIntOf, Instr.sureAddr, Sem.run_bind, Sem.run_pure, Result.andThen_ok, run_underlying hu', if_pos hb, xbT hsz]
    ·cases hd
   ·cases hd
  ·cases hd
 ·exact xnX hH ha h
theorem xvl (hH : xaf X E w0 ⟨objs, n⟩ w) {t ty : TypeId} {v : AV} {z : Eff} (h : lenA P objs (P.underlying t) v = some z) :
  ∃ u, z = ⟨none, [], 0, [], u⟩ ∧ AV.all (fun k => k < n) u ∧ (Builtin.len_ #[t] ty #[v.den E]).run P w = .ok (u.den E) w := by
 have key : ∀ {te : TypeId} {a : Option Addr} {m c : Nat}, P.underlying t = some (.slice te) → (Builtin.len_ #[t] ty #[.slice a m c]).run P w = .ok (.int .i64 m) w := by
  intro te a m c hu
  simp [Builtin.len_, run_underlying hu, goInt]
 unfold lenA at h
 split at h
 ·rename_i te k0 hu
  split at h
  ·rename_i k1 ver own e sz els hf
   cases h
   obtain ⟨hm, hk⟩ := xai hf
   have hk : k1 = k0 := hk
   subst hk
   obtain ⟨h1, _, _⟩ := hH.objs _ hm
   obtain ⟨a, c, hv, _⟩ := h1.reads.is
   have hv : E k1 = _ := hv
   exact ⟨_, rfl, trivial, by simp only [AV.den, hv]; exact key hu⟩
  ·rename_i k1 ver own e ks l hf
   cases h
   obtain ⟨hm, hk⟩ := xai hf
   have hk : k1 = k0 := hk
   subst hk
   have h1 : xaT w own e ks.length (E k1) l.length (rowV ks l) := hH.objs _ hm
   obtain ⟨a, c, hv, _⟩ := h1.reads.is
   exact ⟨_, rfl, trivial, by simp only [AV.den, hv]; exact key hu⟩
  ·rename_i k1 ver own e ks l hf
   cases h
   obtain ⟨hm, hk⟩ := xai hf
   have hk : k1 = k0 := hk
   subst hk
   have h1 : xaT w own e ks.length (E k1) l.length (rowV ks l) := (hH.objs _ hm).2
   obtain ⟨a, c, hv, _⟩ := h1.reads.is
   exact ⟨_, rfl, trivial, by simp only [AV.den, hv]; exact key hu⟩
  ·rename_i k1 ver own e ks l hf
   cases h
   obtain ⟨hm, hk⟩ := xai hf
   have hk : k1 = k0 := hk
   subst hk
   obtain ⟨vs, h1⟩ := hH.objs _ hm
   obtain ⟨a, c, hv, _⟩ := h1.row.reads.is
   have hv : E k1 = _ := hv
   exact ⟨_, rfl, trivial, by simp only [AV.den, hv]; exact key hu⟩
  ·rename_i k1 ver own hf
   cases h
   obtain ⟨hm, hk⟩ := xai hf
   have hk : k1 = k0 := hk
   subst hk
   have h1 : E k1 = .slice none 0 0 := hH.objs _ hm
   exact ⟨_, rfl, trivial, by simp only [AV.den, h1]; exact key hu⟩
  ·cases h
 ·rename_i te a m c hu
  cases h
  exact ⟨_, rfl, trivial, key hu⟩
 ·rename_i te k0 sz lo hi hu
  split at h
  ·rename_i o hf
   split at h
   ·rename_i y hr
    cases h
    obtain ⟨e, ks, l⟩ := y
    obtain ⟨hm, hk⟩ := xai hf
    subst hk
    obtain ⟨a, c, hv, _⟩ := (xbx hr (hH.objs _ hm)).reads.is
    exact ⟨_, rfl, trivial, by simp only [AV.den, xdC, hv, sliced]; exact key hu⟩
   ·cases h
  ·cases h
 ·cases h
theorem xvI {bytes : Nat} {s : AV} {o : Option Obj} {key2 : Nat} {b2 : Body} {x : Eff} (h : xld P K bytes s o key2 b2 = some x) : x.nk = 1 := by
 unfold xld at h
 repeat' split at h
 all_goals first | (cases h; done) | (cases h; rfl)
theorem xsW {t : TypeId} {s y : AV} {x : Eff} (h : xf1 P objs K t s y = some x) : x.nk = 1 := by
 unfold xf1 at h
 split at h
 ·split at h
  ·split at h
   ·split at h
    ·obtain ⟨z, hz, rfl⟩ := Option.map_eq_some_iff.1 h
     show z.nk = 1
     exact xvI hz
    ·cases h
   ·cases h
  ·cases h
 ·cases h
theorem xqI (hH : xaf X E w0 ⟨objs, n⟩ w) {t : TypeId} {v : AV} {x : Eff} (h : xmi P objs K t v = some x) {hiv mxv : Value} (h1 : ∃ k, hiv = .int k 0) (h2 : ∃ k, mxv = .int k 0) :
  xc3 n objs K x ∧ x.nk = 1 ∧ ∃ E' w', (Instr.sliceAt t (v.den E) none (some hiv) (some mxv)).run P w = .ok (x.v.den E') w' ∧ xen E objs w K x E' w' := by
 obtain ⟨k, rfl⟩ := h1
 obtain ⟨k', rfl⟩ := h2
 unfold xmi at h
 split at h
 case h_2 => cases h
 rename_i te hu
 split at h
 case h_2 => cases h
 rename_i sz hs
 have fin : ∀ {a : Option Addr} {len c : Nat} {b : Body}, xaU (fun k => if k = K then .slice a 0 0 else E k) w K true b → xaY (fun k => k < n) b → v.den E = .slice a len c → xmL b = true →
   xc3 n objs K ⟨none, [], 1, [⟨K, K, true, b⟩], .sl K⟩ ∧ (⟨none, [], 1, [⟨K, K, true, b⟩], .sl K⟩ : Eff).nk = 1 ∧ ∃ E' w', (Instr.sliceAt t (v.den E) none (some (.int k 0)) (some (.int k' 0))).run P w = .ok ((AV.sl K).den E') w' ∧ xen E objs w K ⟨none, [], 1, [⟨K, K, true, b⟩], .sl K⟩ E' w' := by
  intro a len c b hb hall hv hflat
  refine ⟨xjU hall (Nat.lt_succ_self K), rfl, _, w, ?_, xlX (u := .slice a 0 0) hH.env rfl hb (Blw.refl _ _) (fun g hg => by cases a <;> simp [blkO] at hg) _ hflat⟩
  rw [hv]
  simp only [AV.den, if_true]
  exact xu8 hu hs
 have nilrow : ∀ {a : Option Addr} {e : TypeId} {ks : List CK}, xaU (fun k => if k = K then .slice a 0 0 else E k) w K true (.row e ks []) := by
  intro a e ks
  show xaT w true e ks.length (if K = K then .slice a 0 0 else E K) 0 (rowV ks [])
  rw [if_pos rfl]
  exact xct (.inl ⟨a, rfl, rfl⟩) (by simp [rowV])
 split at h
 ·rename_i key
  split at h
  case h_2 => cases h
  rename_i o hf
  obtain ⟨hm, hk⟩ := xai hf
  subst hk
  have hb := hH.objs _ hm
  split at h
  ·rename_i hbody
   cases h
   rw [hbody] at hb
   have hE : E o.key = .slice none 0 0 := hb
   exact fin (a := none) (by show (if K = K then _ else _) = _; rw [if_pos rfl]) xlc hE rfl
  ·split at h
   case h_2 => cases h
   rename_i e ks l hr
   split at h
   ·cases h
    obtain ⟨a, c, hv, _⟩ := (xbx hr hb).reads.is
    exact fin nilrow xby hv rfl
   ·cases h
 ·cases h
  exact fin (a := none) (by show (if K = K then _ else _) = _; rw [if_pos rfl]) xlc rfl rfl
 ·cases h
theorem xnn {x : Option AV} (h : xrd x = true) : ∃ k, x = some (.val (.int k 0)) := by
 unfold xrd at h
 split at h
 ·rename_i k n
  exact ⟨k, by rw [of_decide_eq_true h]⟩
 ·cases h
theorem xny (hH : xaf X E w0 ⟨objs, n⟩ w) (hρ : ∀ x v, ρ x = some v → e x = v.den E ∧ AV.lt K v) (hKn : K ≤ n) (o : Oper) {z : Eff} (h : xez P ρ objs K o.op = some z) (hfr : z.nk ≠ 0 → ∀ o ∈ objs, o.key ≠ K ∧ xaY (fun k => k ≠ K) o.body) :
  xc3 n objs K z ∧ OpOk P E objs w K e o z ∧ z.nk ≤ 1 := by
 have hρ1 : ∀ x v, ρ x = some v → e x = v.den E := fun x v h => (hρ x v h).1
 have hρ2 : ∀ x v, ρ x = some v → AV.all (fun k => k < n) v := fun x v h => xe9 hKn v (hρ x v h).2
 have hρL : ∀ (l : List Operand) (vs : List AV), xjl ρ l = some vs → AV.allL (fun k => k < n) vs := fun l vs h => (xd6 _ _).2 (xjk (Q := AV.all (fun k => k < n)) hρ2 l vs h)
 have newbox : ∀ {t : TypeId} {cs : List AV}, AV.allL (fun k => k < K) cs → (execOp e o).run P w = .ok (.value (.pointer (some ⟨w.heap.size, 0, none⟩))) (w.alloc (.cells (AV.denL E cs).toArray t)) →
   xc3 n objs K ⟨none, [], 1, [⟨K, K, true, .cells cs⟩], .ptr K 0⟩ ∧ OpOk P E objs w K e o ⟨none, [], 1, [⟨K, K, true, .cells cs⟩], .ptr K 0⟩ ∧ (⟨none, [], 1, [⟨K, K, true, .cells cs⟩], .ptr K 0⟩ : Eff).nk ≤ 1 := by
  intro t cs hcs hr
  refine ⟨xjU (xiL (fun k hk => Nat.lt_of_lt_of_le hk hKn) _ hcs) (Nat.lt_succ_self K), fun _ => ⟨_, _, _, hr, .inl ?_, xlX (u := .pointer (some ⟨w.heap.size, 0, none⟩)) hH.env rfl ?_ (xcJ _ _) ?_ _⟩, Nat.le_refl _⟩
  ·simp [AV.den, blk]
  ·refine ⟨w.heap.size, t, if_pos rfl, ?_⟩
   rw [xbS (E := E) (fun k (hk : k < K) => if_neg (by omega)) cs hcs]
   exact xbR w _
  ·intro g hg; cases hg; exact Nat.le_refl _
 generalize hop : o.op = op at h
 unfold xez at h
 split at h
 ·-- move
  split at h
  ·rename_i v hv; cases h; exact xcu hH (hρ2 _ _ hv) fun _ => by simp [execOp, hop, hρ1 _ _ hv]
  ·cases h
 ·split at h
  ·rename_i v hv; cases h; exact xcu hH (hρ2 _ _ hv) fun _ => by simp [execOp, hop, hρ1 _ _ hv]
  ·cases h
 ·-- alloc
  rename_i t
  split at h
  ·rename_i z' hz
   cases h
   exact newbox (t := t) (xih (xpv hz _)) (by simp [execOp, hop, Instr.alloc, xhC hz E, newVar, newRow, xfo (xkH hz) hH.env])
  ·cases h
 ·-- box
  rename_i t x
  split at h
  ·rename_i v hv
   split at h
   ·rename_i hpl
    cases h
    exact newbox (t := t) (xih (hρ _ _ hv).2) (by simp [execOp, hop, Instr.box, hρ1 _ _ hv, newVar, newRow, xfo hpl hH.env])
   ·cases h
  ·cases h
 ·-- buildSlice
  rename_i t len parts
  obtain ⟨x, hx, hxz⟩ := Option.map_eq_some_iff.1 h
  obtain ⟨h1, E', w', hr, he⟩ := xmZ hH hρ hKn hx
  have hxn : x.nk = 1 := by
   clear hxz he hr
   unfold xc0 at hx
   split at hx
   ·split at hx
    ·split at hx
     ·split at hx
      ·cases hx; rfl
      ·cases hx
     ·cases hx
    ·cases hx
   ·cases hx
  cases hy : xpE P objs K x with
  | none =>
   rw [hy] at hxz
   have hxz : x = z := hxz
   subst hxz
   refine ⟨h1, fun _ => ⟨E', w', .value (x.v.den E'), ?_, .inl rfl, he⟩, Nat.le_of_eq hxn⟩
   simp only [execOp, hop, Sem.run_bind, hr, Result.andThen_ok, Sem.run_pure]
  | some y =>
   rw [hy] at hxz
   have hxz : y = z := hxz
   subst hxz
   have hnz : y.nk = 1 := by
    clear hr he h1 hfr
    unfold xpE at hy
    split at hy
    ·split at hy
     ·split at hy
      ·split at hy
       ·split at hy
        ·cases hy; rfl
        ·cases hy
       ·cases hy
      ·cases hy
     ·cases hy
    ·cases hy
   obtain ⟨g1, g2, g3, g4, _⟩ := xs5 hH (fun o ho => (hfr (by rw [hnz]; exact Nat.one_ne_zero) o ho).1) h1 he hy
   refine ⟨g1, fun _ => ⟨E', w', .value (y.v.den E'), ?_, .inl rfl, g2⟩, Nat.le_of_eq g4⟩
   rw [g3]
   simp only [execOp, hop, Sem.run_bind, hr, Result.andThen_ok, Sem.run_pure]
 ·-- build
  rename_i t parts
  split at h
  ·rename_i z' place ps hz hp hps
   split at h
   ·rename_i cs hcs
    cases h
    have hbuilt : P.built t (parts.map fun (i, x) => (i, e x)).toList = some (AV.denL E cs).toArray := by
     have hl : (parts.map fun (i, x) => (i, e x)).toList = ps.map fun p => (p.1, p.2.den E) := by
      rw [Array.toList_map]; exact xji hρ1 _ _ hps
     have hf := xqm E hH.env ps z'.cells cs hcs
     rw [hl]
     have hpl := xkH hz
     unfold xkg at hz
     unfold Program.built
     split at hz
     ·rename_i it hit
      cases h2 : it.zero with
      | none => simp [h2] at hz
      | some v =>
       have hzc : v.cells.toList = AV.denL E z'.cells := by
        have := xfo hpl hH.env
        simp only [h2, Option.map_some, Option.some.injEq] at hz
        rw [← hz, xfN] at this
        rw [this, hz]
       have hzc' : v.cells = (AV.denL E z'.cells).toArray := by rw [← hzc]
       unfold xwb at hp
       split at hp
       ·rename_i n te hu
        cases hie : P.info? te with
        | none => simp [hie] at hp
        | some ie =>
         simp only [hie, Option.map_some, Option.some.injEq] at hp
         subst hp
         simp only [hit, hu, h2, hie, hzc']
         exact hf
       ·rename_i fields hu
        cases hm : fields.toList.mapM (fun f => (P.info? f.type).map fun i => (f.offset, i.size)) with
        | none => simp [hm] at hp
        | some places =>
         simp only [hm, Option.map_some, Option.some.injEq] at hp
         subst hp
         simp only [hit, hu, h2, hm, hzc']
         exact hf
       ·cases hp
     ·cases hz
    refine xcu hH ?_ fun _ => by simp [execOp, hop, run_build w t _ _ hbuilt, AV.den]
    exact xuV ps z'.cells cs hcs (xls (Q := AV.all (fun k => k < n)) hρ2 _ _ hps) (xih (xpv hz _))
   ·cases h
  ·cases h
 ·-- load
  rename_i t x
  split at h
  ·rename_i v hv
   split at h
   ·rename_i y hy
    cases h
    obtain ⟨g1, g2, g3⟩ := xsh hH hy
    refine ⟨g1, fun hp => ?_, g2⟩
    obtain ⟨E', hr, he⟩ := g3 hp
    exact ⟨E', w, .value (z.v.den E'), by simp [execOp, hop, hρ1 _ _ hv, hr], .inl rfl, he⟩
   ·obtain ⟨p, u, rfl, hu, hr⟩ := xtr hH h
    exact xcu hH hu fun hp => by simp [execOp, hop, hρ1 _ _ hv, hr hp]
  ·cases h
 ·-- store
  rename_i t x y
  split at h
  ·rename_i a v ha hv
   obtain ⟨h1, h2, h3⟩ := xrK hH (hρ2 _ _ hv) h
   refine ⟨h1, fun hp => ?_, ?_⟩
   ·obtain ⟨w', hr, he⟩ := h3 hp
    exact ⟨E, w', .skip, by simp [execOp, hop, hρ1 _ _ ha, hρ1 _ _ hv, hr], .inr ⟨rfl, by rw [h2]; rfl⟩, he⟩
   ·unfold xom at h
    split at h
    ·split at h
     ·split at h
      ·cases h; exact Nat.zero_le _
      ·cases h
     ·cases h
    ·split at h
     ·split at h
      ·split at h
       ·split at h
        ·cases h; exact Nat.zero_le _
        ·cases h
       ·cases h
      ·cases h
     ·cases h
    ·cases h
  ·cases h
 ·-- nilCheck
  split at h
  ·rename_i hx; cases h; exact xcu hH (hρ2 _ _ hx) fun _ => by simp [execOp, hop, hρ1 _ _ hx, AV.den]
  ·rename_i hx; cases h; exact xcu hH (hρ2 _ _ hx) fun _ => by simp [execOp, hop, hρ1 _ _ hx, AV.den]
  ·rename_i hx; cases h; exact xcu hH (hρ2 _ _ hx) fun _ => by simp [execOp, hop, hρ1 _ _ hx, AV.den]
  ·cases h
 ·-- binOp
  rename_i op t x y yt
  split at h
  ·rename_i k a k' b hx hy
   split at h
   ·rename_i hk
    exact xty hH op k k' hk a b t yt x y o hop (hρ1 _ _ hx) (hρ1 _ _ hy) h
   ·cases h
  ·rename_i a b hx hy
   split at h
   ·split at h
    ·rename_i r hr
     cases h
     have := xjS (E := E) 9 t _ _ r hr 9991 w
     simp only [AV.den] at this
     exact xcu hH trivial fun _ => by simp [execOp, hop, hρ1 _ _ hx, hρ1 _ _ hy, eqGuard, binOp, Op.equal, Op.maxDepth, this, AV.den]
    ·cases h
   ·split at h
    ·rename_i r hr
     cases h
     have := xjS (E := E) 9 t _ _ r hr 9991 w
     simp only [AV.den] at this
     exact xcu hH trivial fun _ => by simp [execOp, hop, hρ1 _ _ hx, hρ1 _ _ hy, eqGuard, binOp, Op.equal, Op.maxDepth, this, AV.den]
    ·cases h
   ·cases h
  ·rename_i a b hx hy
   split at h
   ·rename_i hg
    split at h
    ·split at h
     ·rename_i r hr
      cases h
      have := xjS (E := E) 9 t _ _ r hr 9991 w
      simp only [AV.den] at this
      exact xcu hH trivial fun _ => by simp [execOp, hop, hρ1 _ _ hx, hρ1 _ _ hy, run_eqGuard_agg w _ _ _ _ _ _ hg, binOp, Op.equal, Op.maxDepth, this, AV.den]
     ·cases h
    ·split at h
     ·rename_i r hr
      cases h
      have := xjS (E := E) 9 t _ _ r hr 9991 w
      simp only [AV.den] at this
      exact xcu hH trivial fun _ => by simp [execOp, hop, hρ1 _ _ hx, hρ1 _ _ hy, run_eqGuard_agg w _ _ _ _ _ _ hg, binOp, Op.equal, Op.maxDepth, this, AV.den]
     ·cases h
    ·cases h
   ·cases h
  ·cases h
 ·-- not
  split at h
  ·rename_i hx; cases h; exact xcu hH trivial fun _ => by simp [execOp, hop, hρ1 _ _ hx, AV.den, Op.unary]
  ·cases h
 ·-- neg
  split at h
  ·rename_i hx; cases h; exact xcu hH trivial fun _ => by simp [execOp, hop, hρ1 _ _ hx, AV.den, Op.unary, Op.intArith]
  ·cases h
 ·-- convert
  rename_i src dst x
  split at h
  ·rename_i k m k1 k2 hx hs hd
   split at h
   ·cases h
    exact xcu hH trivial fun _ => by simp [execOp, hop, hρ1 _ _ hx, AV.den, convert, run_underlying hs, run_underlying hd, Conv.intToInt]
   ·cases h
  ·cases h
 ·-- makeFunc
  rename_i f first caps
  split at h
  ·rename_i a b ha hb
   cases h
   have e1 := xeM hρ1 _ _ ha
   have e2 := xeM hρ1 _ _ hb
   have f1 : ∀ l : Array Operand, l.map e = (l.toList.map e).toArray := fun l => by apply Array.ext'; simp
   exact xcu hH ⟨hρL _ _ ha, hρL _ _ hb⟩ fun _ => by simp only [execOp, hop, Instr.makeFunc, Sem.run_bind, Sem.run_pure, Result.andThen_ok, AV.den, ← e1, ← e2, ← f1]
  ·cases h
 ·-- fieldAddr
  rename_i s x f
  split at h
  ·rename_i v fd hx hf
   split at h
   ·rename_i m hs
    obtain ⟨p, u, rfl, hu, hr⟩ := xi6 hH (hρ2 _ _ hx) h
    unfold xro at hf
    split at hf
    ·rename_i fields hu'
     refine xcu hH hu fun hp => ?_
     obtain ⟨a, h1, h2⟩ := hr hp
     simp [execOp, hop, hρ1 _ _ hx, h1, h2, Instr.fieldAt, run_underlying hu', hf, Instr.sureAddr, fieldPlace, xbT hs]
    ·cases hf
   ·cases h
  ·cases h
 ·-- field
  rename_i s x f
  split at h
  ·rename_i cs fd hx hf
   split at h
   ·rename_i v hv
    cases h
    unfold xro at hf
    split at hf
    ·rename_i fields hu
     have := xhD hv E w
     exact xcu hH (xf2 hv (hρ2 _ _ hx)) fun _ => by simp [execOp, hop, hρ1 _ _ hx, AV.den, Instr.field, run_underlying hu, hf, asAgg, this]
    ·cases hf
   ·cases h
  ·cases h
 ·-- index
  split at h
  ·rename_i cs k m len el hx hi hu
   split at h
   ·rename_i sz hsz
    split at h
    ·rename_i hb
     split at h
     ·rename_i v hv
      cases h
      exact xcu hH (xf2 hv (hρ2 _ _ hx)) fun _ => by simp only [execOp, hop, Instr.index, hρ1 _ _ hx, hρ1 _ _ hi, AV.den, asIntOf, Sem.run_bind, Sem.run_pure, Result.andThen_ok, run_underlying hu, if_pos hb, xbT hsz, xhD hv E]
     ·cases h
    ·cases h
   ·cases h
  ·cases h
 ·-- indexAddr
  split at h
  ·rename_i v m hv hm
   obtain ⟨p, u, rfl, hu, hr⟩ := xnV hH (hρ2 _ _ hv) h
   exact xcu hH hu fun hp => by simp [execOp, hop, hρ1 _ _ hv, hρ1 _ _ hm, hr hp]
  ·cases h
 ·-- extract
  split at h
  ·rename_i vs hx
   split at h
   ·rename_i v hv
    cases h
    refine xcu hH ((xd6 _ _).1 (hρ2 _ _ hx) v (List.mem_of_getElem? hv)) fun _ => ?_
    simp [execOp, hop, hρ1 _ _ hx, AV.den, Instr.extract, xaq, hv]
   ·cases h
  ·cases h
 ·-- slice
  rename_i t x lo hi
  split at h
  ·rename_i v lo' hi' hv hlo hhi
   have r1 := xio hρ1 hlo
   have r2 := xio hρ1 hhi
   obtain ⟨p, u, rfl, hu, hr⟩ := xrO hH (hρ2 _ _ hv) h (lov := lo.map e) (hiv := hi.map e) r1 r2
   exact xcu hH hu fun hp => by simp only [execOp, hop, hρ1 _ _ hv, Option.map_none, Sem.run_bind, hr hp, Result.andThen_ok, Sem.run_pure]
  ·cases h
 ·-- s[lo:hi:mx]
  rename_i t x lo hi mx
  split at h
  ·rename_i v hv
   split at h
   ·rename_i hz
    rw [Bool.and_eq_true, Bool.and_eq_true] at hz
    have hlo : lo = none := by cases lo with
     | none => rfl
     | some _ => cases hz.1.1
    subst hlo
    cases hhi : hi with
    | none => rw [hhi] at hz; cases hz.1.2
    | some hx =>
    rw [hhi] at hz
    obtain ⟨k1, e1⟩ := xnn hz.1.2
    obtain ⟨k2, e2⟩ := xnn hz.2
    have e1 : ρ hx = _ := e1
    obtain ⟨h1, h2, E', w', hr, he⟩ := xqI hH h (hiv := e hx) (mxv := e mx) ⟨k1, by rw [hρ1 _ _ e1]; rfl⟩ ⟨k2, by rw [hρ1 _ _ e2]; rfl⟩
    refine ⟨h1, fun hp => ⟨E', w', _, ?_, .inl rfl, he⟩, by rw [h2]; exact Nat.le_refl _⟩
    simp only [execOp, hop, hρ1 _ _ hv, hhi, Option.map_none, Option.map_some, Sem.run_bind, hr, Result.andThen_ok, Sem.run_pure]
   ·split at h
    ·rename_i lo' hi' mx' hlo hhi hmx
     have r1 := xio hρ1 hlo
     have r2 := xio hρ1 hhi
     obtain ⟨k, hk⟩ := r2
     cases hi with
     | none => cases hk
     | some hx =>
     have hk : some (e hx) = some (.int k hi') := hk
     injection hk with hk
     cases hmv : ρ mx with
     | none => rw [hmv] at hmx; cases hmx
     | some mv =>
     rw [hmv] at hmx
     obtain ⟨k2, hk2⟩ := xn6 (show intA mv = some mx' from hmx) E
     obtain ⟨h1, h2, h3⟩ := xqG hH h (lov := lo.map e) r1 (hiv := e hx) (mxv := e mx) ⟨k, hk⟩ ⟨k2, by rw [hρ1 _ _ hmv]; exact hk2⟩
     refine ⟨h1, fun hp => ?_, by rw [h2]; exact Nat.le_refl _⟩
     obtain ⟨E', w', hr, he⟩ := h3 hp
     refine ⟨E', w', _, ?_, .inl rfl, he⟩
     simp only [execOp, hop, hρ1 _ _ hv, Option.map_some, Sem.run_bind, hr, Result.andThen_ok, Sem.run_pure]
    ·cases h
  ·cases h
 ·-- makeMap
  rename_i t
  split at h
  ·rename_i z' hq
   cases h
   obtain ⟨h1, h2, h3⟩ := xpI hH hq
   refine ⟨h1, fun hp => ?_, h2⟩
   obtain ⟨E', w', hr, he⟩ := h3 hp
   exact ⟨E', w', _, by simp only [execOp, hop, Option.map_none, Sem.run_bind, hr, Result.andThen_ok, Sem.run_pure], .inl rfl, he⟩
  obtain ⟨h1, h2, h3⟩ := xpJ hH h
  refine ⟨h1, fun hp => ?_, h2⟩
  obtain ⟨E', w', hr, he⟩ := h3 hp
  exact ⟨E', w', _, by simp only [execOp, hop, Option.map_none, Sem.run_bind, hr, Result.andThen_ok, Sem.run_pure], .inl rfl, he⟩
 ·-- lookup
  rename_i t x ix ok
  split at h
  ·rename_i v k hv hk
   split at h
   ·rename_i z' hq
    cases h
    obtain ⟨h1, h2, h3⟩ := xq7 hH hq
    refine ⟨h1, fun hp => ?_, h2⟩
    obtain ⟨E', hr, he⟩ := h3 hp
    exact ⟨E', w, _, by simp only [execOp, hop, hρ1 _ _ hv, hρ1 _ _ hk, Sem.run_bind, hr, Result.andThen_ok, Sem.run_pure], .inl rfl, he⟩
   obtain ⟨h1, h2, h3, h4, h5⟩ := xq9 hH h
   obtain ⟨p, rm, nk, add, vv⟩ := z
   simp only [] at h1 h2 h3 h4 h5
   subst h1; subst h2; subst h3
   exact ⟨xic _ (xds (fun k hk => hk.elim) _ h4), fun hp => ⟨E, w, _, by simp only [execOp, hop, hρ1 _ _ hv, hρ1 _ _ hk, Sem.run_bind, h5 hp, Result.andThen_ok, Sem.run_pure], .inl rfl, xie hH.env _ _⟩, Nat.zero_le _⟩
  ·cases h
 ·-- mapUpdate
  rename_i t x ix y
  split at h
  ·rename_i v k u hv hk hu
   split at h
   ·rename_i z' hq
    cases h
    obtain ⟨h1, h2, h3, h4⟩ := xnH hH hq
    refine ⟨h1, fun hp => ?_, h2⟩
    obtain ⟨w', hr, he⟩ := h4 hp
    exact ⟨E, w', .skip, by simp only [execOp, hop, hρ1 _ _ hv, hρ1 _ _ hk, hρ1 _ _ hu, Sem.run_bind, hr, Result.andThen_ok, Sem.run_pure], .inr ⟨rfl, by rw [h3]; rfl⟩, he⟩
   obtain ⟨h1, h2, h3, h4⟩ := xnJ hH h
   refine ⟨h1, fun hp => ?_, h2⟩
   obtain ⟨w', hr, he⟩ := h4 hp
   exact ⟨E, w', .skip, by simp only [execOp, hop, hρ1 _ _ hv, hρ1 _ _ hk, hρ1 _ _ hu, Sem.run_bind, hr, Result.andThen_ok, Sem.run_pure], .inr ⟨rfl, by rw [h3]; rfl⟩, he⟩
  ·cases h
 ·-- builtins
  rename_i b args argTypes
  split at h
  ·rename_i vs hvs
   have e1 := xeM hρ1 _ _ hvs
   have e2 : (args.map e).toList = AV.denL E vs := by rw [Array.toList_map]; exact e1
   have hvl := hρL _ _ hvs
   split at h
   ·-- min
    split at h
    ·rename_i k a r
     split at h
     ·rename_i v hv
      cases h
      obtain ⟨m, rfl⟩ := xwn hv
      have := xq4 (P := P) (E := E) (f := Builtin.min2) (fun k a b => rfl) k r a _ hv w
      exact xcu hH trivial fun _ => by simp only [execOp, hop, resolve, Sem.run_bind, Sem.run_pure, Result.andThen_ok, invoke, builtin, Builtin.min_, e2, AV.denL, AV.den, this]
     ·cases h
    ·cases h
   ·-- max
    split at h
    ·rename_i k a r
     split at h
     ·rename_i v hv
      cases h
      obtain ⟨m, rfl⟩ := xwn hv
      have := xq4 (P := P) (E := E) (f := Builtin.max2) (fun k a b => rfl) k r a _ hv w
      exact xcu hH trivial fun _ => by simp only [execOp, hop, resolve, Sem.run_bind, Sem.run_pure, Result.andThen_ok, invoke, builtin, Builtin.max_, e2, AV.denL, AV.den, this]
     ·cases h
    ·cases h
   ·-- len
    split at h
    ·rename_i x
     cases hat : argTypes[0]? with
     | none => rw [hat] at h; simp only [Option.bind_none] at h; unfold lenA at h; cases h
     | some t =>
      rw [hat] at h
      obtain ⟨u, rfl, hu, hr⟩ := xvl (ty := o.type) hH h
      refine xcu hH hu fun _ => ?_
      have e3 : args.map e = #[x.den E] := by apply Array.ext'; rw [e2]; rfl
      have hr' : (Builtin.len_ argTypes o.type #[x.den E]).run P w = .ok (u.den E) w := by
       rw [← hr]
       unfold Builtin.len_
       simp [hat]
      simp only [execOp, hop, resolve, Sem.run_bind, Sem.run_pure, Result.andThen_ok, invoke, builtin, e3, hr']
    ·cases h
   ·-- append
    split at h
    ·rename_i s x t t' hts
     split at h
     ·rename_i htt
      subst htt
      have e3 : args.map e = #[s.den E, x.den E] := by apply Array.ext'; rw [e2]; rfl
      have e4 : argTypes = #[t, t] := by apply Array.ext'; exact hts
      split at h
      ·obtain ⟨h1, h2, h3⟩ := xpp (ty := o.type) hH hvl.1 h
       refine ⟨h1, fun hp => ?_, by rw [h2]; exact Nat.zero_le _⟩
       obtain ⟨w', hr, he⟩ := h3 hp
       exact ⟨E, w', .value (z.v.den E), by simp only [execOp, hop, resolve, Sem.run_bind, Sem.run_pure, Result.andThen_ok, invoke, builtin, e3, e4, hr], .inl rfl, he⟩
      ·split at h
       ·rename_i y hy
        cases h
        obtain ⟨h1, h2, h3⟩ := xpV (ty := o.type) hH hy
        refine ⟨h1, fun hp => ?_, Nat.le_of_eq h2⟩
        obtain ⟨E', w', hr, he⟩ := h3 hp
        exact ⟨E', w', .value (z.v.den E'), by simp only [execOp, hop, resolve, Sem.run_bind, Sem.run_pure, Result.andThen_ok, invoke, builtin, e3, e4, hr], .inl rfl, he⟩
       obtain ⟨h1, h2, h3⟩ := xpr (ty := o.type) hH (hfr (by rw [xsW h]; exact Nat.one_ne_zero)) h
       refine ⟨h1, fun hp => ?_, h2⟩
       obtain ⟨E', w', hr, he⟩ := h3 hp
       exact ⟨E', w', .value (z.v.den E'), by simp only [execOp, hop, resolve, Sem.run_bind, Sem.run_pure, Result.andThen_ok, invoke, builtin, e3, e4, hr], .inl rfl, he⟩
     ·cases h
    ·cases h
   ·-- clear
    split at h
    ·rename_i x t hts
     obtain ⟨h1, h2, h3, h4⟩ := xsP (ty := o.type) hH h
     have e3 : args.map e = #[x.den E] := by apply Array.ext'; rw [e2]; rfl
     have e4 : argTypes = #[t] := by apply Array.ext'; exact hts
     refine ⟨h1, fun hp => ?_, by rw [h2]; exact Nat.zero_le _⟩
     obtain ⟨w', hr, he⟩ := h4 hp
     exact ⟨E, w', .value (z.v.den E), by rw [h3]; simp only [execOp, hop, resolve, Sem.run_bind, Sem.run_pure, Result.andThen_ok, invoke, builtin, e3, e4, hr]; rfl, .inl rfl, he⟩
    ·cases h
   ·cases h
  ·cases h
 ·cases h
end
end Go.Sy
set_option linter.unusedVariables false
namespace Go.Sy
noncomputable section
inductive Slot where
 | is (v : AV)
 | when (g : Nat) (want : Bool) (v : AV)
 | junk
abbrev xaO := Nat → Slot
def upd {α : Type} (s : Nat → α) (d : Nat) (v : α) : Nat → α := fun t => match Nat.beq t d with | true => v | false => s t
def put (s : xaO) (d : Option Nat) (v : Slot) : xaO := match d with | some d => upd s d v | none => s
abbrev Ctx := List (Nat × Bool × Bool)
def readS (ctx : Ctx) (s : xaO) : Operand → Option AV
 | .tmp t => match s t with
  | .is v => some v
  | .when g want v => if ctx.any (fun c => Nat.beq c.1 g && (c.2.1 == want)) then some v else none
  | .junk => none
 | .const v => some (ofValue v)
 | .global g => some (.val (.pointer (some ⟨g, 0, none⟩)))
 | .func f => some (.fn (.func f) [] [])
def xeq (ctx : Ctx) (s : xaO) (c : Operand) (side : Bool) : Operand → Option AV
 | .tmp t => match s t with
  | .is v => some v
  | .when g want v => if ctx.any (fun c => Nat.beq c.1 g && (c.2.1 == want)) then some v else match c with
   | .tmp g' => if Nat.beq g g' && (want == side) then some v else none
   | _ => none
  | .junk => none
 | x => readS ctx s x
def xvn (b : Bool) : Operand → Bool
 | .const (.bool b') => b' == b
 | _ => false
def xtV : AV → Option AV
 | .bool b => some (.bool b)
 | .val (.bool b) => some (.val (.bool b))
 | _ => none
def litV (b : Bool) : Option AV → Bool
 | some (.val (.bool b')) => b' == b
 | _ => false
def xvT (ctx : Ctx) (s : xaO) (c a b : Operand) : Option Bool :=
 match readS ctx s c with
 | some (.bool _) => if xvn false b && litV false (xeq ctx s c true a) then some false else if xvn true a && litV true (xeq ctx s c false b) then some true else none
 | _ => none
def xr1 (ctx : Ctx) (s : xaO) (c a b : Operand) : Option AV :=
 match readS ctx s c with
 | some (.val (.bool k)) => (match k with | true => (xeq ctx s c true a).bind xtV | false => (xeq ctx s c false b).bind xtV)
 | some (.bool cb) => match (xeq ctx s c true a).map AV.weak, (xeq ctx s c false b).map AV.weak with
  | some (.bool x), some (.bool y) =>
   if xvn true a then some (.bool (cb || y)) else if xvn false b then some (.bool (cb && x)) else some (.bool (bif cb then x else y))
  | _, _ => none
 | _ => none
def xq0 (ctx : Ctx) (s : xaO) (c a b : Operand) : Option AV :=
 match xvT ctx s c a b with
 | some v => some (.val (.bool v))
 | none => xr1 ctx s c a b
def xk2 (ops : Array Oper) (o : Oper) : Option (Option (Nat × Bool)) :=
 match o.guard with
 | none => some none
 | some (j, want) => match ops[j]? with
  | some oj => match oj.dst with
   | some d => some (some (d, want))
   | none => none
  | none => none
def Heap.eff (H : Heap) (x : Eff) : Heap := ⟨xd5 x H.objs, H.next + x.nk⟩
abbrev RCfg := xaO × Heap
def xa5 (s : xaO) : Nat → Nat → Bool → Option Ctx
 | 0, _, _ => none
 | n + 1, g, want => match s g with
  | .is v => match v.weak with
   | .bool b => some [(g, want, b)]
   | _ => none
  | .when g1 w1 v => match v.weak with
   | .bool b => (xa5 s n g1 w1).map ((g, want, b) :: ·)
   | _ => none
  | .junk => none
def xh9 (s : xaO) (g : Nat) (want : Bool) : Option Bool :=
 match s g with
 | .is (.val (.bool b)) => some (b == want)
 | .is (.val _) => some false
 | _ => none
def xz5 : Ctx → Bool
 | [] => true
 | [(_, want, b)] => b == want
 | (_, want, b) :: r => (b == want) && xz5 r
def xsK : Ctx → Prop → Prop
 | [], p => p
 | (_, want, b) :: r, p => xsK r (b = want → p)
def xhA (ctx : Ctx) (v : AV) : Slot := match ctx with | [] => .is v | (g, want, _) :: _ => .when g want v
def xsa {α : Type} (ctx : Ctx) (p : Option Prop) (t : Tree α) : Tree α := match p with | none => t | some p => .need (xsK ctx p) t
def xoS (g : Nat) (v : Bool) (s : xaO) : xaO :=
 upd (fun t => match s t with
  | .when g' w x => if Nat.beq g' g then (match w == v with | true => .is x | false => .is (.val undef)) else .when g' w x
  | y => y) g (.is (.val (.bool v)))
def brG : Ctx → xaO → (xaO → Tree RCfg) → (xaO → Tree RCfg) → Tree RCfg
 | [], s, t, _ => t s
 | (g, want, b) :: rest, s, t, e => .br (b == want) (brG rest (xoS g want s) t e) (e (xoS g (!want) s))
def xpo (s : xaO) (H : Heap) (dst : Option Nat) (ctx : Ctx) (x : Eff) : Tree RCfg :=
 if x.pure then xsa ctx x.p (.ret (put s dst (xhA ctx x.v), H))
 else match ctx with
  | [] => xsa [] x.p (.ret (put s dst (.is x.v), H.eff x))
  | c :: r => brG (c :: r).reverse s (fun s => xsa [] x.p (.ret (put s dst (.is x.v), H.eff x))) (fun s => .ret (put s dst (.is (.val undef)), H))
def xrg (k : Nat) : List (Option Nat) → Nat → Option Nat
 | [], _ => none
 | some k' :: r, i => if Nat.beq k k' then some i else xrg k r (i + 1)
 | none :: r, i => xrg k r (i + 1)
mutual
/-- The slices of a result that are new, under the names K, K+1 .. -/
def xmp (K : Nat) : AV → List (Option Nat) → Option (AV × List (Option Nat))
 | .sl k, acc => if Nat.blt k K then some (.sl k, acc) else match xrg k acc 0 with
  | some i => some (.sl (K + i), acc)
  | none => some (.sl (K + acc.length), acc ++ [some k])
 | .val (.slice none 0 0), acc => some (.sl (K + acc.length), acc ++ [none])
 | .ptr k off, acc => if Nat.blt k K then some (.ptr k off, acc) else none
 | .yl k, acc => if Nat.blt k K then some (.yl k, acc) else none
 | .fn _ _ _, _ => none
 | .ix _ _ _ _ _, _ => none
 | .vw k sz lo hi, acc => if Nat.blt k K then some (.vw k sz lo hi, acc) else none
 | .agg cs, acc => match xwc K cs acc with | some (cs', acc') => some (.agg cs', acc') | none => none
 | .tup cs, acc => match xwc K cs acc with | some (cs', acc') => some (.tup cs', acc') | none => none
 | v, acc => some (v, acc)
def xwc (K : Nat) : List AV → List (Option Nat) → Option (List AV × List (Option Nat))
 | [], acc => some ([], acc)
 | a :: r, acc => match xmp K a acc with
  | some (a', acc') => match xwc K r acc' with
   | some (r', acc'') => some (a' :: r', acc'')
   | none => none
  | none => none
end
def xhi (P : Program) (K : Nat) (objs : List Obj) : Nat → List (Option Nat) → Option (List Obj)
 | _, [] => some []
 | i, none :: r => (xhi P K objs (i + 1) r).map (⟨K + i, K, true, .nil⟩ :: ·)
 | i, some k :: r => match xah k objs with
  | some ⟨_, _, true, b⟩ => match b with
   | .nil => (xhi P K objs (i + 1) r).map (⟨K + i, K, true, .nil⟩ :: ·)
   | .nst e ks l => (xhi P K objs (i + 1) r).map (⟨K + i, K, true, .nst e ks l⟩ :: ·)
   | b => match xdk P b with
    | some (e, ks, l) => (xhi P K objs (i + 1) r).map (⟨K + i, K, true, .row e ks l⟩ :: ·)
    | none => none
  | some ⟨_, _, false, .sub e ks l⟩ => (xhi P K objs (i + 1) r).map (⟨K + i, K, false, .sub e ks l⟩ :: ·)
  | _ => none
def pack (P : Program) (K : Nat) (y : AV × Heap) : Option Eff :=
 match xmp K y.1 [] with
 | some (v, acc) => (xhi P K y.2.objs 0 acc).map fun add => ⟨none, [], acc.length, add, v⟩
 | none => none
mutual
def xmt (b : Bool) : AV → AV → Option AV
 | .bool x, .bool y => some (.bool (bif b then x else y))
 | .int k x, .int k' y => if k = k' then some (.int k (bif b then x else y)) else none
 | .agg xs, .agg ys => (xng b xs ys).map .agg
 | .tup xs, .tup ys => (xng b xs ys).map .tup
 | .sl x, .sl y => if x = y then some (.sl x) else none
 | _, _ => none
def xng (b : Bool) : List AV → List AV → Option (List AV)
 | [], [] => some []
 | x :: xs, y :: ys => match xmt b x y, xng b xs ys with
  | some z, some zs => some (z :: zs)
  | _, _ => none
 | _, _ => none
end
def xws (b : Bool) : Body → Body → Option Body
 | .nil, .nil => some .nil
 | .nil, .row e ks l => some (.row e ks (bif b then [] else l))
 | .row e ks l, .nil => some (.row e ks (bif b then l else []))
 | .row e ks l, .row e' ks' l' => if e = e' ∧ ks = ks' then some (.row e ks (bif b then l else l')) else none
 | .nil, .nst e ks l => some (.nst e ks (bif b then [] else l))
 | .nst e ks l, .nil => some (.nst e ks (bif b then l else []))
 | .nst e ks l, .nst e' ks' l' => if e = e' ∧ ks = ks' then some (.nst e ks (bif b then l else l')) else none
 | _, _ => none
def xwp (b : Bool) : Body → Body → Option Body
 | .sub e ks l, .sub e' ks' l' => if e = e' ∧ ks = ks' then some (.sub e ks (bif b then l else l')) else none
 | .sub e ks l, .row e' ks' l' => if e = e' ∧ ks = ks' then some (.sub e ks (bif b then l else l')) else none
 | .row e ks l, .sub e' ks' l' => if e = e' ∧ ks = ks' then some (.sub e ks (bif b then l else l')) else none
 | .sub e ks l, .nil => some (.sub e ks (bif b then l else []))
 | .nil, .sub e ks l => some (.sub e ks (bif b then [] else l))
 | _, _ => none
def xqf (b : Bool) : List Obj → List Obj → Option (List Obj)
 | [], [] => some []
 | ⟨k, v, o, x⟩ :: xs, ⟨k', _, o', y⟩ :: ys => if k = k' then (match (match o && o' with | true => (xws b x y).map fun z => (true, z) | false => (xwp b x y).map fun z => (false, z)), xqf b xs ys with
  | some z, some zs => some (⟨k, v, z.1, z.2⟩ :: zs)
  | _, _ => none) else none
 | _, _ => none
def xyk (b : Bool) : Option Prop → Option Prop → Option Prop
 | none, none => none
 | some p, none => some (b = true → p)
 | none, some q => some (b = false → q)
 | some p, some q => some ((b = true → p) ∧ (b = false → q))
def xwq (b : Bool) (x y : Eff) : Option Eff :=
 match xmt b x.v.weak y.v.weak, xqf b x.add y.add with
 | some v, some add => if x.rm.isEmpty && y.rm.isEmpty && Nat.beq x.nk y.nk then some ⟨xyk b x.p y.p, [], x.nk, add, v⟩ else none
 | _, _ => none
def andP (p : Prop) : Option Prop → Option Prop
 | none => some p
 | some q => some (p ∧ q)
def xkh : Body → Body → Option Prop
 | .nil, .nil => some True
 | .nil, .row _ _ l => some (l = [])
 | .row e ks l, .row e' ks' l' => if e = e' ∧ ks = ks' then some (l = l') else none
 | .nil, .nst _ _ l => some (l = [])
 | .nst e ks l, .nst e' ks' l' => if e = e' ∧ ks = ks' then some (l = l') else none
 | .sub e ks l, .sub e' ks' l' => if e = e' ∧ ks = ks' then some (l = l') else none
 | _, _ => none
def xu6 : List Obj → List Obj → Option Prop
 | [], [] => some True
 | ⟨k, _, o, x⟩ :: xs, ⟨k', _, o', y⟩ :: ys => if k = k' ∧ o = o' then (match xkh x y, xu6 xs ys with
  | some p, some q => some (p ∧ q)
  | _, _ => none) else none
 | _, _ => none
def xyT : AV → AV → Bool
 | .sl a, .sl b => Nat.beq a b
 | _, _ => false
def askE (p : Prop) (x y : Eff) : Option Eff :=
 match xu6 x.add y.add with
 | some q => if xyT x.v y.v && Nat.beq x.nk y.nk then some { y with p := andP (p → xlO x.p ∧ q) y.p } else none
 | none => none
def dead {α : Type} : Tree α → Bool
 | .bad => false
 | .br _ t e => dead t && dead e
 | .need _ t => dead t
 | .ask _ .bad .bad => true
 | .ask _ t e => dead t && dead e
 | .ret _ => false
def xat (P : Program) (K : Nat) : Tree (AV × Heap) → Option Eff
 | .ret y => pack P K y
 | .br b t e => match xat P K t, xat P K e with
  | some x, some y => xwq b x y
  | some x, none => if dead e then some { x with p := andP (b = true) x.p } else none
  | none, some y => if dead t then some { y with p := andP (b = false) y.p } else none
  | none, none => none
 | .need p t => (xat P K t).map fun x => { x with p := andP p x.p }
 | .ask p t e => match xat P K t, xat P K e with
  | some x, some y => askE p x y
  | _, _ => none
 | .bad => none
def xpg (P : Program) : Nat → TypeId → List TypeId
 | 0, t => [t]
 | n + 1, t => match P.underlying t with
  | some (.struct fs) => fs.toList.flatMap fun f => xpg P n f.type
  | some (.array m e) => (List.replicate m (xpg P n e)).flatten
  | _ => [t]
structure xdt where
 key : Option Nat
 own : Bool
 body : Body
def xjR (k : Nat) : List xdt → Nat → Option Nat
 | [], _ => none
 | x :: r, i => match x.key with
  | some k' => if Nat.beq k k' then some i else xjR k r (i + 1)
  | none => xjR k r (i + 1)
def xeP (P : Program) (t : Option TypeId) : Body :=
 match t.bind P.underlying with
 | some (.slice e) => match xnM P 9 e with
  | some (k :: ks) => .row e (k :: ks) []
  | _ => .nil
 | _ => .nil
def canK (P : Program) (objs : List Obj) (t : Option TypeId) (k : Nat) (acc : List xdt) : Option (Nat × List xdt) :=
 match xjR k acc 0 with
 | some i => some (i, acc)
 | none => match xah k objs with
  | some o => some (acc.length, acc ++ [⟨some k, o.own, match o.body with | .nil => xeP P t | b => b⟩])
  | none => none
mutual
def canV (P : Program) (objs : List Obj) (ts : Option TypeId) : AV → List xdt → Option (AV × List xdt)
 | .sl k, acc => match canK P objs ts k acc with | some (i, acc') => some (.sl i, acc') | none => none
 | .ptr k off, acc => match canK P objs none k acc with | some (i, acc') => some (.ptr i off, acc') | none => none
 | .val (.slice none 0 0), acc => match ts.bind P.underlying with
  | some (.slice _) => some (.sl acc.length, acc ++ [⟨none, true, xeP P ts⟩])
  | _ => some (.val (.slice none 0 0), acc)
 | .fn f first caps, acc => match canL P objs [] first acc with
  | some (first', acc') => match canL P objs [] caps acc' with
   | some (caps', acc'') => some (.fn f first' caps', acc'')
   | none => none
  | none => none
 | .agg cs, acc => match canL P objs (match ts with | some t => xpg P 9 t | none => []) cs acc with
  | some (cs', acc') => some (.agg cs', acc')
  | none => none
 | .tup cs, acc => match canL P objs [] cs acc with
  | some (cs', acc') => some (.tup cs', acc')
  | none => none
 | .yl _, _ => none
 | .ix _ _ _ _ _, _ => none
 | .vw _ _ _ _, _ => none
 | v, acc => some (v, acc)
def canL (P : Program) (objs : List Obj) : List TypeId → List AV → List xdt → Option (List AV × List xdt)
 | _, [], acc => some ([], acc)
 | ts, a :: r, acc => match canV P objs ts.head? a acc with
  | some (a', acc') => match canL P objs ts.tail r acc' with
   | some (r', acc'') => some (a' :: r', acc'')
   | none => none
  | none => none
end
def xaX : Body → Bool
 | .row _ _ _ => true
 | .nst _ _ _ => true
 | .sub _ _ _ => true
 | .mq _ _ _ _ _ => true
 | .nil => true
 | _ => false
def xpi : Nat → List xdt → Option (List Obj)
 | _, [] => some []
 | i, x :: r => match x.body with
  | .loop .. => none
  | b => (xpi (i + 1) r).map (⟨i, 0, x.own, b⟩ :: ·)
def xeD (P : Program) : List xdt → Option (List xdt)
 | [] => some []
 | x :: r => match x.body with
  | .row _ _ _ | .nil | .nst _ _ _ | .mq _ _ _ _ _ => (xeD P r).map (x :: ·)
  | .sub e ks l => (xeD P r).map ({ x with body := .row e ks l } :: ·)
  | .arr e sz els => match xdk P (.arr e sz els) with
   | some (e, ks, l) => (xeD P r).map ({ x with body := .row e ks l } :: ·)
   | none => none
  | _ => none
abbrev xfr := FuncId → List AV → Heap → Tree (AV × Heap)
abbrev Con := FuncId → List AV → List Obj → Option Eff
def xi8 (K : Nat) (es : List xdt) (i : Nat) : Nat :=
 match es[i]? with
 | some ⟨some k, _, _⟩ => k
 | some ⟨none, _, _⟩ => 0
 | none => K + (i - es.length)
def xuM (K : Nat) (es : List xdt) (x : Eff) : Option Eff :=
 if x.rm.isEmpty && x.add.all (fun o => Nat.ble es.length o.key && xaX o.body) && (AV.keys x.v).all (fun i => match es[i]? with | some ⟨none, _, _⟩ => false | _ => true) then
  some ⟨x.p, [], x.nk, x.add.map fun o => ⟨xi8 K es o.key, K, o.own, o.body⟩, x.v.ren (xi8 K es)⟩
 else none
section exec
variable (P : Program) (Γ : Con) (call : xfr) (yld : Nat → List AV → Heap → Tree (AV × Heap))
def xxI (f : FuncId) : List TypeId := match P.funcs[f]? with | some fn => fn.params.toList | none => []
def xy0 (f : FuncId) (args : List AV) : Bool :=
 args.any (fun a => match a with | .val (.slice none 0 0) => true | _ => false) && (AV.keysL args).isEmpty && (Γ f (AV.weakL args) []).isSome
def xsT (f : FuncId) (args : List AV) (objs : List Obj) (K : Nat) : Option (List Nat × Eff) :=
 match canL P objs (match xy0 Γ f args with | true => [] | false => xxI P f) args [] with
 | some (args', es0) => match xeD P es0 with
  | some es => match xpi 0 es with
   | some objs' => match Γ f (AV.weakL args') objs' with
    | some x => match xuM K es x with
     | some y => some (es.filterMap (·.key), y)
     | none => none
    | none => none
   | none => none
  | none => none
 | none => none
def xkj (objs : List Obj) : Nat → List AV → Option (List AV × List Obj × List Nat × Option Prop)
 | _, [] => some ([], [], [], none)
 | K, a :: r => match isVw a with
  | true => match srcA P objs a, xkj objs (K + 1) r with
   | some (k, b, p), some (r', add, ft, q) => some (.sl K :: r', ⟨K, 0, false, b⟩ :: add, k :: ft, xpT p q)
   | _, _ => none
  | false => match xkj objs K r with
   | some (r', add, ft, q) => some (a :: r', add, ft, q)
   | none => none
def xtU (f : FuncId) (args : List AV) (objs : List Obj) (K : Nat) : Option (List Nat × Eff) :=
 match args.any isVw with
 | false => xsT P Γ f args objs K
 | true => match xkj P objs K args with
  | some (args', add, ft, p) => match xsT P Γ f args' (add ++ objs.filter fun o => Nat.blt o.key K) (K + add.length) with
   | some (ft', x) => some (ft ++ ft'.filter fun k => Nat.blt k K, { x with p := xpT p x.p, nk := match Nat.beq x.nk 0 && x.add.isEmpty && (AV.keys x.v).all (fun k => Nat.blt k K) with | true => 0 | false => add.length + x.nk })
   | none => none
  | none => none
def frozen (l : List Obj) : List Obj := l.map fun o => { o with own := false, body := xuZ o.body }
def xm3 {α : Type} (p : α → Bool) : Tree α → Bool
 | .ret a => p a
 | .br _ t e => xm3 p t || xm3 p e
 | .need _ t => xm3 p t
 | .ask _ t e => xm3 p t || xm3 p e
 | .bad => false
def xwd (args : List AV) (objs : List Obj) : List Obj := objs.filter fun o => o.own && (AV.keysL args).any (Nat.beq o.key)
def xzz (own : List Obj) (t : Tree (AV × Heap)) : Bool := xm3 (fun x => own.any fun o => !(x.2.objs.any fun o' => Nat.beq o'.key o.key && Nat.beq o'.ver o.ver)) t
def xx0 (f : FuncId) (args : List AV) (objs : List Obj) (K : Nat) : Option Eff :=
 match xtU P Γ f args objs K with
 | some (_, x) => some x
 | none => match !(xwd args objs).isEmpty && xzz (xwd args objs) (call f args ⟨objs, K⟩) with
  | true => none
  | false => xat P K (call f args ⟨frozen objs, K⟩)
def isYl : AV → Bool
 | .yl _ => true
 | _ => false
def xz6 (f : FuncId) (args : List AV) (objs : List Obj) (K : Nat) : Option Eff := match args.any isYl with | true => none | false => xx0 P Γ call f args objs K
def xzr (f : FuncId) (args : List AV) (objs : List Obj) (K : Nat) : Option Eff :=
 match args with
 | .sl key :: rest => match AV.keysL rest with
  | [] => match xah key objs with
   | some ⟨_, _, true, b⟩ => match xdk P b with
    | some (e, ks, l) => match Γ f (.sl 0 :: AV.weakL rest) [⟨0, 0, true, .row e ks l⟩] with
     | some x => match x.rm, x.add with
      | [_], [⟨_, _, _, .row e' ks' l'⟩] => some ⟨x.p, [key], 0, [⟨key, K, true, .row e' ks' l'⟩], x.v.ren fun _ => key⟩
      | _, _ => none
     | none => none
    | none => none
   | _ => none
  | _ => none
 | _ => none
def xyq : Option AV → Bool
 | some (.val (.slice none 0 0)) => true
 | _ => false
def xwl (rd : Operand → Option AV) (objs : List Obj) (op : BinOp) (t : TypeId) (x y : Operand) : Option (Prop × Bool) :=
 match (match op with | .eql => some true | .neq => some false | _ => none), P.underlying t with
 | some b, some (.slice _) => if xyq (rd y) then (match rd x with
  | some (.sl key) => match xah key objs with
   | some o => match xdk P o.body with
    | some (_, _ :: _, l) => some (l = [], b)
    | _ => none
   | none => none
  | _ => none) else none
 | _, _ => none
def xpF (o : Oper) (s : xaO) (H : Heap) (ctx : Ctx) : Tree RCfg :=
 let rd := readS ctx s
 match o.op with
 | .pick c a b => match xq0 ctx s c a b with
  | some v => .ret (put s o.dst (xhA ctx v), H)
  | none => .bad
 | .call { callee := .value f, args, .. } => match rd f, xjl rd args.toList with
  | some (.fn (.func fi) first caps), some vs =>
   match xzr P Γ fi (first ++ vs ++ caps) H.objs H.next with
   | some x => xpo s H o.dst ctx x
   | none => match xz6 P Γ call fi (first ++ vs ++ caps) H.objs H.next with
   | some x => xpo s H o.dst ctx x
   | none => match ctx with
    | [] => (call fi (first ++ vs ++ caps) H).bind fun (v, H') => .ret (put s o.dst (.is v), H')
    | c :: r => brG (c :: r).reverse s (fun s => (call fi (first ++ vs ++ caps) H).bind fun (v, H') => .ret (put s o.dst (.is v), H')) (fun s => .ret (put s o.dst (.is (.val undef)), H))
  | some (.yl key), some vs =>
   match ctx with
   | [] => (yld key vs H).bind fun (v, H') => .ret (put s o.dst (.is v), H')
   | c :: r => brG (c :: r).reverse s (fun s => (yld key vs H).bind fun (v, H') => .ret (put s o.dst (.is v), H')) (fun s => .ret (put s o.dst (.is (.val undef)), H))
  | _, _ => .bad
 | op => match xle P rd H.objs H.next op with
  | some x => xpo s H o.dst ctx x
  | none => match op with
   | .binOp bo t x y _ => match xwl P rd H.objs bo t x y with
    | some (p, v) => .ask p (.ret (put s o.dst (xhA ctx (.val (.bool v))), H)) (.ret (put s o.dst (xhA ctx (.val (.bool !v))), H))
    | none => .bad
   | _ => .bad
def xdN (N : Nat) (d : Option Nat) (seen : List Nat) : Option (List Nat) :=
 match d with
 | none => some seen
 | some d => if Nat.blt d N && !(seen.any (Nat.beq d)) then some (d :: seen) else none
def xgN (N : Nat) (ops : Array Oper) : List Oper → List Nat → xaO → Heap → Tree RCfg
 | [], _, s, H => .ret (s, H)
 | o :: rest, seen, s, H =>
  match xdN N o.dst seen with
  | none => .bad
  | some seen' =>
   match xk2 ops o with
   | some none => (xpF P Γ call yld o s H []).bind fun (s', H') => xgN N ops rest seen' s' H'
   | some (some (g, want)) =>
    if seen.any (Nat.beq g) then
     match xh9 s g want with
     | some true => (xpF P Γ call yld o s H []).bind fun (s', H') => xgN N ops rest seen' s' H'
     | some false => xgN N ops rest seen' (put s o.dst (.is (.val undef))) H
     | none => match xa5 s 9 g want with
      | some ctx => (xpF P Γ call yld o s H ctx).bind fun (s', H') => xgN N ops rest seen' s' H'
      | none => .bad
    else .bad
   | none => .bad
structure Item where
 o : Oper
 ctx : Ctx
 x : Eff
 key : Nat
 /-- it reads whatever was there when the region began -/
 all : Bool
 /-- it reads these objects -/
 foot : List Nat
 /-- its guard surely holds -/
 sure : Bool := false
def Item.slot (it : Item) : Slot := if it.x.pure then xhA it.ctx it.x.v else .is it.x.v
def Item.touch (it : Item) (key : Nat) : Bool := it.x.rm.any (Nat.beq key) || (Nat.ble it.key key && Nat.blt key (it.key + it.x.nk))
def Item.need (it : Item) : Option Prop := it.x.p.map (xsK it.ctx)
def xth : Body → Bool
 | .loop .. => false
 | _ => true
def Item.fine (it : Item) : Bool :=
 (it.x.pure || it.ctx.isEmpty || it.sure) && it.x.rm.all (fun k => Nat.blt k it.key) &&
 it.x.add.all (fun o => it.touch o.key && Nat.ble it.key o.ver && xth o.body && (AV.keysL o.body.cellsOf).all fun k => Nat.blt k (it.key + it.x.nk)) &&
 (AV.keys it.x.v).all (fun k => Nat.blt k (it.key + it.x.nk))
def keyOf : Option AV → List Nat
 | some (.ptr key _) => [key]
 | some (.ix key _ _ _ _) => [key]
 | some (.sl key) => [key]
 | some (.vw key _ _ _) => [key]
 | _ => []
def xqg : Option AV → List Nat
 | some v => AV.keysL v.cells
 | none => []
def xlR (rd : Operand → Option AV) : Op → List Nat
 | .load _ x => keyOf (rd x)
 | .store _ x _ => keyOf (rd x)
 | .indexAddr _ x _ => keyOf (rd x)
 | .fieldAddr _ x _ => keyOf (rd x)
 | .slice _ x _ _ _ => keyOf (rd x)
 | .lookup _ x _ _ => keyOf (rd x)
 | .mapUpdate _ x _ y => keyOf (rd x) ++ xqg (rd y)
 | .call { args, .. } => args.toList.flatMap fun x => keyOf (rd x)
 | .buildSlice _ _ parts => parts.toList.flatMap fun p => xqg (rd p.2)
 | _ => []
def xrM (o : Oper) (s : xaO) (objs0 : List Obj) (H : Heap) (ctx : Ctx) : Option Item :=
 let rd := readS ctx s
 match o.op with
 | .pick c a b => match xq0 ctx s c a b with
  | some v => some ⟨o, ctx, ⟨none, [], 0, [], v⟩, H.next, false, [], false⟩
  | none => none
 | .call { callee := .value f, args, .. } => match rd f, xjl rd args.toList with
  | some (.fn (.func fi) first caps), some vs =>
   match xtU P Γ fi (first ++ vs ++ caps) H.objs H.next with
   | some (ft, x) => some ⟨o, ctx, x, H.next, false, ft, false⟩
   | none => match xat P H.next (call fi (first ++ vs ++ caps) ⟨frozen objs0, H.next⟩) with
    | some x => some ⟨o, ctx, x, H.next, true, [], false⟩
    | none => none
  | _, _ => none
 | op => match xle P rd H.objs H.next op with
  | some x => some ⟨o, ctx, x, H.next, false, xlR rd op, false⟩
  | none => none
def xtK (ops : Array Oper) (o : Oper) (s : xaO) (seen : List Nat) : Option Ctx :=
 match xk2 ops o with
 | some none => some []
 | some (some (g, want)) => if seen.any (Nat.beq g) then xa5 s 9 g want else none
 | none => none
def xuS (as : List (Nat × Bool)) (it : Item) : Item :=
 match it.o.dst with
 | some d => match as.find? (fun y => Nat.beq y.1 d) with
  | some (_, v) => (match it.x.v with
   | .bool b => { it with x := { it.x with p := xpT it.x.p (some (b = v)), v := .val (.bool v) } }
   | _ => it)
  | none => it
 | none => it
def xwC (ops : Array Oper) (o : Oper) (s : xaO) : Option Bool :=
 match xk2 ops o with
 | some (some (g, want)) => xh9 s g want
 | _ => none
def xxv (as : List (Nat × Bool)) (ops : Array Oper) (o : Oper) (s : xaO) (objs0 : List Obj) (H : Heap) (ctx : Ctx) : Option Item :=
 match xwC ops o s with
 | some false => some ⟨o, ctx, ⟨none, [], 0, [], .val undef⟩, H.next, false, [], false⟩
 | some true => (xrM P Γ call o s objs0 H ctx).map fun it => { xuS as it with sure := true }
 | none => (xrM P Γ call o s objs0 H ctx).map fun it => { xuS as it with sure := false }
def runD (as : List (Nat × Bool)) (N : Nat) (ops : Array Oper) (objs0 : List Obj) : List Oper → List Nat → xaO → Heap → Option (List Item)
 | [], _, _, _ => some []
 | o :: rest, seen, s, H =>
  match xdN N o.dst seen, xtK ops o s seen with
  | some seen', some ctx => match xxv P Γ call as ops o s objs0 H ctx with
   | some it => if it.fine then (match runD as N ops objs0 rest seen' (put s o.dst it.slot) (H.eff it.x) with | some l => some (it :: l) | none => none) else none
   | none => none
  | _, _ => none
def xyz (as : List (Nat × Bool)) (N : Nat) (ops : Array Oper) (objs0 : List Obj) : List Oper → List Nat → xaO → Heap → Option (Nat × Bool)
 | [], _, _, _ => none
 | o :: rest, seen, s, H =>
  match xdN N o.dst seen, xtK ops o s seen with
  | some seen', some ctx => match xxv P Γ call as ops o s objs0 H ctx with
   | some it => if it.fine then xyz as N ops objs0 rest seen' (put s o.dst it.slot) (H.eff it.x) else match ctx.getLast? with
    | some (g, _, b) => if as.any (fun y => Nat.beq y.1 g) then none else some (g, b)
    | none => none
   | none => none
  | _, _ => none
def xnL (it : Item) : List Nat :=
 (it.o.op.operands.toList.filterMap fun | .tmp t => some t | _ => none) ++ it.ctx.map (·.1)
def xdP : List Oper → List Nat → List Nat
 | [], acc => acc
 | o :: r, acc => CheckFast.force (CheckFast.one (fun i => acc.getD i 0) o) fun v => xdP r (acc ++ [v])
def xhj (M : List Nat) (j m : Nat) : Bool := if Nat.blt m j then (M.getD j 0).testBit m else (M.getD m 0).testBit j
def Item.names (it : Item) (lo hi : Nat) : Bool :=
 ((AV.keys it.x.v) ++ it.x.add.flatMap fun o => o.key :: AV.keysL o.body.cellsOf).any fun k => Nat.ble lo k && Nat.blt k hi
def xzI (l : List Nat) (y : Item) : Bool := l.any y.touch
def xuj (M : List Nat) (next0 : Nat) (j : Nat) (x : Item) (m : Nat) (y : Item) : Bool :=
 Nat.beq j m || xhj M j m ||
 ((match y.o.dst with | some d => !((xnL x).any (Nat.beq d)) | none => true) &&
  !(xzI x.foot y) &&
  (!x.all || y.x.rm.all (Nat.ble next0)) &&
  !(x.x.rm.any y.touch) &&
  (Nat.beq x.x.nk 0 || !(y.names x.key (x.key + x.x.nk))))
def xzt (M : List Nat) (next0 : Nat) (j : Nat) (x : Item) (m : Nat) (y : Item) : Bool :=
 !x.all || y.x.rm.all (Nat.ble next0) || Nat.blt j m
def xwf (next0 : Nat) (ops : Array Oper) (L : List Item) : Bool :=
 let M := xdP ops.toList []
 (ops.toList.zipIdx.all fun (o, i) => o.after.all fun e => !Region.binds .any e || Nat.blt e.on i) &&
 L.zipIdx.all fun (x, j) => L.zipIdx.all fun (y, m) => xuj M next0 j x m y && xzt M next0 j x m y
def xbn (S : Nat → Bool) : Nat → List Item → xaO → xaO
 | _, [], s => s
 | i, it :: r, s => xbn S (i + 1) r (if S i then put s it.o.dst it.slot else s)
def xdD (S : Nat → Bool) : Nat → List Item → List Obj → List Obj
 | _, [], l => l
 | i, it :: r, l => xdD S (i + 1) r (if S i then xd5 it.x l else l)
def xfs : List Item → Nat → Nat
 | [], n => n
 | it :: r, n => xfs r (n + it.x.nk)
def xtk {α : Type} : List Item → Tree α → Tree α
 | [], t => t
 | it :: r, t => match it.need with | some p => .need p (xtk r t) | none => xtk r t
def xpd (N : Nat) (ops : Array Oper) (s : xaO) (H : Heap) : Nat → List (Nat × Bool) → Tree RCfg
 | 0, _ => .bad
 | n + 1, as => match runD P Γ call as N ops H.objs ops.toList [] s H with
  | some L => if P.follows .mixedOrders && xwf H.next ops L then xtk L (.ret (xbn (fun _ => true) 0 L s, ⟨xdD (fun _ => true) 0 L H.objs, xfs L H.next⟩)) else .bad
  | none => match xyz P Γ call as N ops H.objs ops.toList [] s H with
   | some (g, b) => .br b (xpd N ops s H n ((g, true) :: as)) (xpd N ops s H n ((g, false) :: as))
   | none => .bad
def xmS (N : Nat) (ops : Array Oper) (s : xaO) (H : Heap) : Tree RCfg := xpd P Γ call N ops s H 6 []
structure Cfg where
 tmps : Nat → Option AV
 heap : Heap
def xak (f : Nat → Option AV) : xaO := fun t => match f t with | some v => .is v | none => .junk
def xe7 (s : xaO) : Nat → Option AV := fun t => match s t with | .is v => some v | _ => none
inductive xco where
 | normal
 | exit (id : Nat)
 | ret
end exec
inductive U where
 | i (n : Int)
 | b (b : Bool)
 | r (l : List (List Int))
 deriving Inhabited
def gi (xs : List U) (j : Nat) : Int := match xs[j]? with | some (.i n) => n | _ => 0
def gb (xs : List U) (j : Nat) : Bool := match xs[j]? with | some (.b b) => b | _ => false
def gr (xs : List U) (j : Nat) : List (List Int) := match xs[j]? with | some (.r l) => l | _ => []
def xgG (step : List U → Option (Nat × List U)) : Nat → List U → Option (Nat × List U)
 | 0, _ => none
 | n + 1, xs => match step xs with
  | some (0, ys) => xgG step n ys
  | some (m + 1, ys) => some (m + 1, ys)
  | none => none
def xaH (step : List U → Option (Nat × List U)) (xs : List U) : Prop := ∃ n r, xgG step n xs = some r
noncomputable def xaw (step : List U → Option (Nat × List U)) (xs : List U) : Nat × List U := by
 classical exact if h : xaH step xs then h.choose_spec.choose else (0, [])
inductive RT where
 | row (e : TypeId) (ks : List CK)
 | nst (e : TypeId) (ks : List NK)
 | sub (e : TypeId) (ks : List CK)
 | ro (e : TypeId) (ks : List CK)
def RT.body : RT → List (List Int) → Body
 | .row e ks, l => .row e ks l
 | .nst e ks, l => .nst e ks l
 | .sub e ks, l => .sub e ks l
 | .ro e ks, l => .row e ks l
def RT.own : RT → Bool
 | .sub _ _ => false
 | .ro _ _ => false
 | _ => true
def rtOf (P : Program) (b : Body) : Option RT :=
 match xdk P b with
 | some (e, ks, _) => some (match xlF b with | true => .sub e ks | false => .row e ks)
 | none => match b with
  | .nst e ks _ => some (.nst e ks)
  | _ => none
def xxD (P : Program) (o : Obj) : Option RT :=
 match rtOf P o.body with
 | some (.row e ks) => some (match o.own with | true => .row e ks | false => .ro e ks)
 | t => t
def RT.join : RT → RT → RT
 | .row e ks, .sub _ _ => .sub e ks
 | .row e ks, .ro _ _ => .ro e ks
 | .sub e ks, .ro _ _ => .ro e ks
 | t, _ => t
structure Spec where
 slots : List (Nat × AV)
 objs : List Obj
 rows : List RT
 base : Nat
 drop : List Nat
mutual
/-- A shape filled with xiP from the j-th on. -/
def xd4 (xs : List U) : AV → Nat → AV × Nat
 | .bool _, j => (.bool (gb xs j), j + 1)
 | .int k _, j => (.int k (gi xs j), j + 1)
 | .fn f a b, j => match xck xs a j with | (a', j1) => match xck xs b j1 with | (b', j2) => (.fn f a' b', j2)
 | .agg cs, j => match xck xs cs j with | (cs', j1) => (.agg cs', j1)
 | .tup cs, j => match xck xs cs j with | (cs', j1) => (.tup cs', j1)
 | .vw k sz none _, j => (.vw k sz none (gi xs j), j + 1)
 | v, j => (v, j)
def xck (xs : List U) : List AV → Nat → List AV × Nat
 | [], j => ([], j)
 | a :: r, j => match xd4 xs a j with | (a', j1) => match xck xs r j1 with | (r', j2) => (a' :: r', j2)
end
def xia (xs : List U) : List (List AV) → Nat → List (List AV) × Nat
 | [], j => ([], j)
 | a :: r, j => match xck xs a j with | (a', j1) => match xia xs r j1 with | (r', j2) => (a' :: r', j2)
def xfk (xs : List U) : Body → Nat → Body × Nat
 | .cells cs, j => match xck xs cs j with | (cs', j1) => (.cells cs', j1)
 | .row e ks _, j => (.row e ks (gr xs j), j + 1)
 | .nst e ks _, j => (.nst e ks (gr xs j), j + 1)
 | .sub e ks _, j => (.sub e ks (gr xs j), j + 1)
 | .mp kt et q m ke _, j => (.mp kt et q m ke (gr xs j), j + 1)
 | .mq kt et q ks _, j => (.mq kt et q ks (gr xs j), j + 1)
 | .arr e sz els, j => match xia xs els j with | (els', j1) => (.arr e sz els', j1)
 | b, j => (b, j)
def xay (xs : List U) : List (Nat × AV) → Nat → List (Nat × AV) × Nat
 | [], j => ([], j)
 | (t, v) :: r, j => match xd4 xs v j with | (v', j1) => match xay xs r j1 with | (r', j2) => ((t, v') :: r', j2)
def xaN (ver : Nat) (xs : List U) : List Obj → Nat → List Obj × Nat
 | [], j => ([], j)
 | o :: r, j => match xfk xs o.body j with | (b, j1) => match xaN ver xs r j1 with | (r', j2) => (⟨o.key, ver, o.own, b⟩ :: r', j2)
def xcR (ver : Nat) (xs : List U) : Nat → List RT → Nat → List Obj
 | _, [], _ => []
 | k, t :: r, j => ⟨k, ver, t.own, t.body (gr xs j)⟩ :: xcR ver xs (k + 1) r (j + 1)
def xdf (t : Nat) : List (Nat × AV) → Option AV
 | [] => none
 | (t', v) :: r => if Nat.beq t t' then some v else xdf t r
def xfw (k : Nat) : List Obj → Bool
 | [] => false
 | o :: r => Nat.beq o.key k || xfw k r
def xo1 (k : Nat) : List Obj → Bool
 | [] => false
 | o :: r => (Nat.beq o.key k && o.own) || xo1 k r
def Spec.still (S : Spec) (l : List Obj) : List Obj := l.filter fun o => !(xfw o.key S.objs) && !(S.drop.any (Nat.beq o.key))
def Spec.gen (S : Spec) (st : List Obj) (wr : List Nat) (tm : Nat → Option AV) (xs : List U) : Cfg :=
 match xay xs S.slots 0 with
 | (sl, j1) => match xaN S.base xs S.objs j1 with
  | (ob, j2) => ⟨fun t => match xdf t sl with | some v => some v | none => if wr.any (Nat.beq t) then none else tm t,
    ⟨ob ++ xcR S.base xs S.base S.rows j2 ++ st, S.base + S.rows.length + 1⟩⟩
structure MS where
 km : List (Nat × Option Nat)
 us : List U
def xfY (k : Nat) : List (Nat × Option Nat) → Option (Option Nat)
 | [] => none
 | (k', v) :: r => if Nat.beq k k' then some v else xfY k r
def addK (k : Nat) (v : Option Nat) (m : MS) : Option MS :=
 match xfY k m.km with
 | none => some { m with km := (k, v) :: m.km }
 | some u => if u = v then some m else none
def xxA : Value → Value → Bool
 | .bool a, .bool b => a == b
 | .int k a, .int k' b => if k = k' then decide (a = b) else false
 | .pointer none, .pointer none => true
 | .slice none 0 0, .slice none 0 0 => true
 | .map none, .map none => true
 | .nilFunc, .nilFunc => true
 | .nilIface, .nilIface => true
 | _, _ => false
mutual
/-- The xiP of a value of some shape. -/
def xdn (base : Nat) : AV → AV → MS → Option MS
 | .bool _, v, m => match v.weak with | .bool b => some { m with us := .b b :: m.us } | _ => none
 | .int k _, v, m => match v.weak with | .int k' n => if k = k' then some { m with us := .i n :: m.us } else none | _ => none
 | .val c, .val c', m => if xxA c c' then some m else none
 | .ptr k off, .ptr k' off', m => if k = k' ∧ off = off' ∧ k < base then some m else none
 | .yl k, .yl k', m => if k = k' ∧ k < base then some m else none
 | .vw k sz none _, .vw k' sz' none hi, m => if k = k' ∧ sz = sz' ∧ k < base then some { m with us := .i hi :: m.us } else none
 | .sl k, .sl k', m => if Nat.blt k base then (if k = k' then some m else none) else addK k (some k') m
 | .sl k, .val (.slice none 0 0), m => if Nat.blt k base then none else addK k none m
 | .fn f a b, .fn f' a' b', m => if f = f' then (match xjs base a a' m with | some m' => xjs base b b' m' | none => none) else none
 | .agg cs, .agg cs', m => xjs base cs cs' m
 | .tup cs, .tup cs', m => xjs base cs cs' m
 | _, _, _ => none
def xjs (base : Nat) : List AV → List AV → MS → Option MS
 | [], [], m => some m
 | a :: r, a' :: r', m => match xdn base a a' m with | some m' => xjs base r r' m' | none => none
 | _, _, _ => none
end
def xmu (base : Nat) : List (List AV) → List (List AV) → MS → Option MS
 | [], [], m => some m
 | a :: r, a' :: r', m => match xjs base a a' m with | some m' => xmu base r r' m' | none => none
 | _, _, _ => none
def xqO : Option Code → Option Code → Bool
 | none, none => true
 | some .ret, some .ret => true
 | some (.exit a), some (.exit b) => Nat.beq a b
 | _, _ => false
def xc6 (P : Program) (base : Nat) : Body → Body → MS → Option MS
 | .cells cs, .cells cs', m => xjs base cs cs' m
 | .row e ks _, b, m => match b with
  | .nil => some { m with us := .r [] :: m.us }
  | b => match xdk P b with
   | some (e', ks', l) => if e = e' ∧ ks = ks' then some { m with us := .r l :: m.us } else none
   | none => none
 | .nst e ks _, b, m => match b with
  | .nil => some { m with us := .r [] :: m.us }
  | .nst e' ks' l => if e = e' ∧ ks = ks' then some { m with us := .r l :: m.us } else none
  | _ => none
 | .sub e ks _, .sub e' ks' l, m => if e = e' ∧ ks = ks' then some { m with us := .r l :: m.us } else none
 | .arr e sz els, .arr e' sz' els', m => if e = e' ∧ sz = sz' then xmu base els els' m else none
 | .nil, .nil, m => some m
 | .mp kt et q n ke _, .mp kt' et' q' n' ke' l, m => if kt = kt' ∧ et = et' ∧ q = q' ∧ n = n' ∧ ke = ke' then some { m with us := .r l :: m.us } else none
 | .mq kt et q ks _, .mq kt' et' q' ks' l, m => if kt = kt' ∧ et = et' ∧ q = q' ∧ ks = ks' then some { m with us := .r l :: m.us } else none
 | .fin st pend, .fin st' pend', m => if Nat.beq st st' && xqO pend pend' then some m else none
 | _, _, _ => none
def xhL (base : Nat) (tmps : Nat → Option AV) : List (Nat × AV) → MS → Option MS
 | [], m => some m
 | (t, s) :: r, m => match tmps t with
  | some v => match xdn base s v m with | some m' => xhL base tmps r m' | none => none
  | none => none
def xjr (P : Program) (base : Nat) (objs : List Obj) : List Obj → MS → Option MS
 | [], m => some m
 | o :: r, m => match xah o.key objs with
  | some o' => if o.own = o'.own ∨ o.own = false then (match xc6 P base o.body o'.body m with | some m' => xjr P base objs r m' | none => none) else none
  | none => none
def xsd (P : Program) (t : RT) (own : Bool) (b : Body) (m : MS) : Option MS :=
 match t with
 | .sub e ks => (match own || xlF b with | true => xc6 P 0 (.row e ks []) b m | false => none)
 | .row e ks => (match own with | true => xc6 P 0 (.row e ks []) b m | false => none)
 | .ro e ks => xc6 P 0 (.row e ks []) b m
 | .nst e ks => (match own with | true => xc6 P 0 (.nst e ks []) b m | false => none)
def xjq (P : Program) (objs : List Obj) : Nat → List RT → MS → Option MS
 | _, [], m => some m
 | k, t :: r, m => match xfY k m.km with
  | some (some k') => match xah k' objs with
   | some ⟨_, _, own, b⟩ => match xsd P t own b m with | some m' => xjq P objs (k + 1) r m' | none => none
   | _ => none
  | _ => xjq P objs (k + 1) r { m with us := .r [] :: m.us }
def xjV : List Nat → Bool
 | [] => true
 | a :: r => !(r.any (Nat.beq a)) && xjV r
def xon (objs : List Obj) (ver : Nat) : List Obj → Bool
 | [] => true
 | o :: r => (match xah o.key objs with | some o' => Nat.blt o'.ver ver | none => false) && xon objs ver r
def Spec.match_ (P : Program) (S : Spec) (st : List Obj) (ver : Nat) (c : Cfg) : Option (List U) :=
 match xhL S.base c.tmps S.slots ⟨[], []⟩ with
 | some m1 => match xjr P S.base c.heap.objs S.objs m1 with
  | some m2 => match xjq P c.heap.objs S.base S.rows m2 with
   | some m3 =>
    if xjV (m2.km.filterMap (·.2)) && (m2.km.all fun x => Nat.blt x.1 (S.base + S.rows.length) && Nat.ble S.base x.1) && ((m2.km.filterMap (·.2)).all fun k => !(xfw k S.objs) && !(xo1 k st)) &&
     xjV (S.objs.map (·.key)) && (S.objs.all fun o => Nat.blt o.key S.base && !(xfw o.key st)) && xon c.heap.objs ver st
    then some m3.us.reverse else none
   | none => none
  | none => none
 | none => none
def xco.same : xco → xco → Bool
 | .normal, .normal => true
 | .ret, .ret => true
 | .exit a, .exit b => Nat.beq a b
 | _, _ => false
def xiP {α : Type} : Tree α → List α
 | .ret a => [a]
 | .br _ t e => xiP t ++ xiP e
 | .need _ t => xiP t
 | .ask _ t e => xiP t ++ xiP e
 | .bad => []
def xcS : Code → List Nat
 | .region _ ops _ => ops.toList.filterMap (·.dst)
 | .seq a b => xcS a ++ xcS b
 | .cond _ a b => xcS a ++ xcS b
 | .block _ a => xcS a
 | .loop a => xcS a
 | .scope a => xcS a
 | _ => []
def xug (objs : List Obj) : Nat → List Nat → List Nat → List Nat
 | 0, _, acc => acc
 | _ + 1, [], acc => acc
 | n + 1, k :: r, acc => if acc.any (Nat.beq k) then xug objs n r acc else
  match xah k objs with
  | some o => xug objs n (AV.keysL o.body.cellsOf ++ r) (k :: acc)
  | none => xug objs n r (k :: acc)
def restrict (next : Nat) (roots : List Nat) (H : Heap) : Heap :=
 let old := H.objs.filter fun o => Nat.blt o.key next
 let ks := xug H.objs 200 (roots ++ old.flatMap fun o => AV.keysL o.body.cellsOf) []
 { H with objs := H.objs.filter fun o => Nat.blt o.key next || ks.any (Nat.beq o.key) }
def xfm : List Nat → List Nat → List Nat
 | [], acc => acc.reverse
 | a :: r, acc => if acc.any (Nat.beq a) then xfm r acc else xfm r (a :: acc)
mutual
def xzS (P : Program) (base : Nat) (H0 H1 : List Obj) (rows : List RT) : AV → AV → Option (AV × List RT)
 | .val c, .val c' => if xxA c c' then some (.val c, rows) else
  (match (AV.val c).weak, (AV.val c').weak with
  | .bool b, .bool _ => some (.bool b, rows)
  | .int k n, .int k' _ => if k = k' then some (.int k n, rows) else none
  | _, _ => none)
 | .val (.bool b), .bool _ => some (.bool b, rows)
 | .val (.int k n), .int _ _ => some (.int k n, rows)
 | .bool b, v => match v.weak with | .bool _ => some (.bool b, rows) | _ => none
 | .int k n, v => match v.weak with | .int k' _ => if k = k' then some (.int k n, rows) else none | _ => none
 | .ptr k off, .ptr k' off' => if k = k' ∧ off = off' then some (.ptr k off, rows) else none
 | .yl k, .yl k' => if k = k' then some (.yl k, rows) else none
 | .sl k, .sl k' => if Nat.ble base k then some (.sl k, rows) else if k = k' then some (.sl k, rows) else
  (match (xah k' H1).bind fun o => xxD P o with
  | some t => some (.sl (base + rows.length), rows ++ [match (xah k H0).bind fun o => xxD P o with | some t' => t.join t' | none => t])
  | none => none)
 | .val (.slice none 0 0), .sl k' => (match (xah k' H1).bind fun o => xxD P o with
  | some t => some (.sl (base + rows.length), rows ++ [t])
  | none => none)
 | .sl k, .val (.slice none 0 0) => if Nat.ble base k then some (.sl k, rows) else
  (match (xah k H0).bind fun o => xxD P o with
  | some t => some (.sl (base + rows.length), rows ++ [t])
  | none => none)
 | .fn f a b, .fn f' a' b' => if f = f' then (match xtw P base H0 H1 rows a a' with
  | some (x, rows1) => match xtw P base H0 H1 rows1 b b' with
   | some (y, rows2) => some (.fn f x y, rows2)
   | none => none
  | none => none) else none
 | .agg cs, .agg cs' => (match xtw P base H0 H1 rows cs cs' with | some (x, r) => some (.agg x, r) | none => none)
 | .tup cs, .tup cs' => (match xtw P base H0 H1 rows cs cs' with | some (x, r) => some (.tup x, r) | none => none)
 | _, _ => none
def xtw (P : Program) (base : Nat) (H0 H1 : List Obj) (rows : List RT) : List AV → List AV → Option (List AV × List RT)
 | [], [] => some ([], rows)
 | a :: r, a' :: r' => match xzS P base H0 H1 rows a a' with
  | some (x, rows1) => match xtw P base H0 H1 rows1 r r' with
   | some (y, rows2) => some (x :: y, rows2)
   | none => none
  | none => none
 | _, _ => none
end
def xyo (P : Program) (base : Nat) (H0 H1 : List Obj) (rows : List RT) : List (List AV) → List (List AV) → Option (List (List AV) × List RT)
 | [], [] => some ([], rows)
 | a :: r, a' :: r' => match xtw P base H0 H1 rows a a' with
  | some (x, rows1) => match xyo P base H0 H1 rows1 r r' with
   | some (y, rows2) => some (x :: y, rows2)
   | none => none
  | none => none
 | _, _ => none
def xzT (P : Program) (base : Nat) (H0 H1 : List Obj) (rows : List RT) (x y : Body) : Option (Body × List RT) :=
 match x, y with
 | .cells cs, .cells cs' => (xtw P base H0 H1 rows cs cs').map fun z => (.cells z.1, z.2)
 | .mp kt et q m ke l, .mp _ _ _ _ _ _ => some (.mp kt et q m ke l, rows)
 | .mq kt et q ks l, .mq _ _ _ _ _ => some (.mq kt et q ks l, rows)
 | .nst e ks l, .nst _ _ _ => some (.nst e ks l, rows)
 | .arr e sz els, .arr e' sz' els' => (match xyo P base H0 H1 rows els els' with
  | some z => some (.arr e sz z.1, z.2)
  | none => match xdk P (.arr e sz els), xdk P (.arr e' sz' els') with
   | some (e, ks, l), some _ => some (.row e ks l, rows)
   | _, _ => none)
 | x, y => match xdk P x, xdk P y with
  | some (e, ks, l), some _ => some (.row e ks l, rows)
  | _, _ => none
def xoU (P : Program) (base : Nat) (H0 H1 : List Obj) (tmps : Nat → Option AV) : List RT → List (Nat × AV) → List (Nat × AV) × List RT
 | rows, [] => ([], rows)
 | rows, (t, v) :: r => match (tmps t).bind (xzS P base H0 H1 rows v) with
  | some (v', rows1) => match xoU P base H0 H1 tmps rows1 r with | (r', rows2) => ((t, v') :: r', rows2)
  | none => xoU P base H0 H1 tmps rows r
def xuA (P : Program) (base ver : Nat) (H0 H1 : List Obj) : List Obj → Spec → Spec
 | [], S => S
 | o :: r, S => xuA P base ver H0 H1 r (
  match xah o.key H1 with
  | none => if S.drop.any (Nat.beq o.key) then S else { S with drop := o.key :: S.drop, objs := S.objs.filter fun x => !(Nat.beq x.key o.key) }
  | some o' => if xfw o.key S.objs || S.drop.any (Nat.beq o.key) then S else if Nat.blt o'.ver ver then S else
   match xzT P base H0 H1 S.rows o.body o'.body with
   | some (b, rows) => { S with objs := S.objs ++ [⟨o.key, 0, o.own && o'.own, b⟩], rows := rows }
   | none => S)
def xv4 (P : Program) (base : Nat) (H0 H1 : List Obj) : List Obj → Spec → Spec
 | [], S => S
 | o :: r, S => match (xah o.key H1).bind fun o' => (xzT P base H0 H1 S.rows o.body o'.body).map fun z => (z, o'.own) with
  | some ((b, rows), ow) => xv4 P base H0 H1 r { S with objs := S.objs ++ [⟨o.key, 0, o.own && ow, b⟩], rows := rows }
  | none => xv4 P base H0 H1 r S
def Spec.join (P : Program) (S : Spec) (c0 c1 : Cfg) : Spec :=
 let ver := S.base + S.rows.length + 1
 match xoU P S.base c0.heap.objs c1.heap.objs c1.tmps S.rows S.slots with
 | (sl, rows) =>
  let S1 := xv4 P S.base c0.heap.objs c1.heap.objs S.objs { S with slots := sl, rows := rows, objs := [] }
  xuA P S.base ver c0.heap.objs c1.heap.objs (S.still c0.heap.objs) S1
def Spec.size (S : Spec) : Nat := S.slots.length + 1000 * (S.objs.length + S.rows.length + S.drop.length)
def Spec.enter (P : Program) (S : Spec) (c0 : Cfg) : Spec :=
 match xhL S.base c0.tmps S.slots ⟨[], []⟩ with
 | some m1 => match xjr P S.base c0.heap.objs S.objs m1 with
  | some m2 => let ks := (m2.km.filterMap (·.2)).filter fun k => xo1 k c0.heap.objs; { S with drop := S.drop ++ ks.filter fun k => !(S.drop.any (Nat.beq k)), objs := S.objs.filter fun o => !(ks.any (Nat.beq o.key)) }
  | none => S
 | none => S
def xti : List (xco × Cfg) → List Cfg
 | [] => []
 | (.normal, c) :: r => c :: xti r
 | _ :: r => xti r
def Spec.search (P : Program) (wr : List Nat) (c0 : Cfg) (body : Cfg → Tree (xco × Cfg)) : Nat → Spec → Spec
 | 0, S => S
 | n + 1, S =>
  let ls := xiP (body (S.gen (S.still c0.heap.objs) wr c0.tmps []))
  let S1 := (xti ls).foldl (fun S c1 => S.join P c0 c1) S
  let S' := S1.enter P c0
  if Nat.beq S'.size S.size then S' else Spec.search P wr c0 body n S'
def xhy (tmps : Nat → Option AV) : List Nat → List (Nat × AV)
 | [] => []
 | t :: r => match tmps t with
  | some (.val (.tuple _)) => xhy tmps r
  | some v => (t, v.weak) :: xhy tmps r
  | none => xhy tmps r
def xtx : AV → Bool
 | .val v => match v with
  | .bool _ | .int _ _ | .string _ | .slice _ _ _ | .pointer _ | .map _ | .nilFunc | .nilIface | .agg _ | .func _ _ _ => false
  | _ => true
 | _ => false
def xn2 (tmps : Nat → Option AV) : List Nat → List (Nat × AV)
 | [] => []
 | t :: r => match tmps t with
  | some v => if xtx v then xn2 tmps r else (t, v) :: xn2 tmps r
  | none => xn2 tmps r
def xuk (S : Spec) (st : List Obj) (ver : Nat) (res : List Nat) : Nat → List (xco × Cfg) → List (Nat × xco × Spec)
 | _, [] => []
 | n, (x, c) :: r => match x with
  | .normal => xuk S st ver res (n + 1) r
  | x =>
   let ts := match x with | .ret => res | _ => S.slots.map (·.1)
   let sl := xn2 c.tmps ts
   let H := restrict S.base (sl.flatMap fun y => AV.keys y.2) c.heap
   (n + 1, x, ⟨sl, H.objs.filter fun o => !(xfw o.key st) || !(Nat.blt o.ver ver), [], c.heap.next, (st.filter fun o => !(xfw o.key H.objs)).map (·.key)⟩) :: xuk S st ver res (n + 1) r
def xea (P : Program) (S : Spec) (st : List Obj) (ver : Nat) (outs : List (Nat × xco × Spec)) : Tree (xco × Cfg) → Nat → Tree (Nat × List U) × Nat
 | .ret (x, c), n => match x with
  | .normal => (match S.match_ P st ver c with | some us => .ret (0, us) | none => .bad, n + 1)
  | x => (match outs.find? (fun y => Nat.beq y.1 (n + 1)) with
   | some (_, y, T) => if y.same x && Nat.ble c.heap.next T.base then (match T.match_ P (T.still st) ver c with | some us => .ret (n + 1, us) | none => .bad) else .bad
   | none => .bad, n + 1)
 | .br b t e, n => match xea P S st ver outs t n with | (t', n1) => match xea P S st ver outs e n1 with | (e', n2) => (.br b t' e', n2)
 | .need p t, n => match xea P S st ver outs t n with | (t', n1) => (.need p t', n1)
 | .ask p t e, n => match xea P S st ver outs t n with | (t', n1) => match xea P S st ver outs e n1 with | (e', n2) => (.ask p t' e', n2)
 | .bad, n => (.bad, n)
def tmOf (y : xco) (tm : Nat → Option AV) : Nat → Option AV := match y with | .ret => fun _ => none | _ => tm
def brs (st : List Obj) (wr : List Nat) (tm : Nat → Option AV) (r : Nat × List U) : List (Nat × xco × Spec) → Tree (xco × Cfg)
 | [] => .bad
 | [(_, y, T)] => .ret (y, T.gen (T.still st) wr (tmOf y tm) r.2)
 | (n, y, T) :: rest => .br (Nat.beq r.1 n) (.ret (y, T.gen (T.still st) wr (tmOf y tm) r.2)) (brs st wr tm r rest)
def xs8 (wr : List Nat) (S : Spec) : Bool := S.slots.all fun x => wr.any (Nat.beq x.1)
def xwe (wr : List Nat) (outs : List (Nat × xco × Spec)) : Bool := outs.all fun y => match y.2.1 with | .ret => true | _ => xs8 wr y.2.2
inductive Ask where
 | known
 | unknown
 | on (c : Cfg)
section exec
variable (P : Program) (Γ : Con) (call : xfr) (yld : Nat → List AV → Heap → Tree (AV × Heap))
def xy6 (o : Oper) : Bool := match o.op with
 | .panic _ => true
 | _ => false
def xib (N : Nat) (ops : Array Oper) (draw : Bool) (c : Cfg) : Tree RCfg :=
 match ops.toList.any xy6 with
 | true => .ask False .bad .bad
 | false => if draw = false then xgN P Γ call yld N ops ops.toList [] (xak c.tmps) c.heap else xmS P Γ call N ops (xak c.tmps) c.heap
def xrm : Tree RCfg → Option RCfg
 | .ret x => some x
 | .need _ t => xrm t
 | .ask _ _ e => xrm e
 | _ => none
def ask (N : Nat) : Code → Cfg → Ask
 | .skip, c => .on c
 | .region _ ops draw, c => match xrm (xib P Γ call yld N ops draw c) with
  | some (s, H) => .on ⟨xe7 s, H⟩
  | none => .unknown
 | .seq a b, c => match ask N a c with
  | .on c' => ask N b c'
  | x => x
 | .cond x _ _, c => match readS [] (xak c.tmps) x with
  | some (.val (.bool _)) => .known
  | _ => .unknown
 | .block _ a, c => ask N a c
 | _, _ => .unknown
def cutK (key sz : Nat) (hi : Int) (H : Heap) : Option (Prop × Heap) :=
 match xah key H.objs with
 | some ⟨_, _, true, .row e ks l⟩ => if Nat.beq ks.length sz then some ((0 ≤ hi ∧ hi ≤ (l.length : Int)), ⟨⟨H.next, H.next, true, .row e ks (l.take hi.toNat)⟩ :: H.objs.filter (fun o => !(Nat.beq o.key key)), H.next + 1⟩) else none
 | _ => none
def xjg : List Nat → Cfg → Tree Cfg
 | [], c => .ret c
 | t :: r, c => match c.tmps t with
  | some (.vw key sz none hi) => (match cutK key sz hi c.heap with
   | some (p, H) => .need p (xjg r ⟨upd c.tmps t (some (.sl c.heap.next)), H⟩)
   | none => xjg r c)
  | _ => xjg r c
def xyp : Option AV → Bool
 | some (.sl _) => true
 | some (.val (.slice none 0 0)) => true
 | _ => false
def xrT (wr : List Nat) (c : Cfg) (r : xco × Cfg) : Tree (xco × Cfg) :=
 match r.1 with
 | .ret => .ret r
 | x => (xjg (wr.filter fun t => xyp (c.tmps t)) r.2).bind fun c' => .ret (x, c')
noncomputable def xjN (res wr : List Nat) (body : Cfg → Tree (xco × Cfg)) (c0 : Cfg) : Tree (xco × Cfg) :=
 let S := Spec.search P wr c0 body 4 ⟨(xhy c0.tmps wr).filter (fun x => !xtx x.2), [], [], c0.heap.next, []⟩
 let st := S.still c0.heap.objs
 let ver := S.base + S.rows.length + 1
 let outs := xuk S st ver res 0 (xiP (body (S.gen st wr c0.tmps [])))
 match S.match_ P st (c0.heap.next + 1) c0 with
 | some xs0 => if Nat.beq S.base c0.heap.next && xs8 wr S && xwe wr outs then
   .need (xaH (fun xs => (xea P S st ver outs (body (S.gen st wr c0.tmps xs)) 0).1.opt) xs0)
    (brs st wr c0.tmps (xaw (fun xs => (xea P S st ver outs (body (S.gen st wr c0.tmps xs)) 0).1.opt) xs0) outs)
  else .bad
 | none => .bad
def xr5 : List (xco × Cfg) → Bool
 | [] => true
 | (.normal, _) :: r => r.all fun x => match x.1 with | .normal => false | _ => true
 | _ :: r => xr5 r
def xkb (known : Cfg → Bool) (gen : Cfg → Tree (xco × Cfg)) (body : Cfg → Tree (xco × Cfg)) : Nat → Cfg → Tree (xco × Cfg)
 | 0, _ => .bad
 | n + 1, c => if known c then (body c).bind fun (x, c') => match x with
   | .normal => xkb known gen body n c'
   | x => .ret (x, c')
  else gen c
def xzD : xco → Option Code
 | .normal => none
 | .exit id => some (.exit id)
 | .ret => some .ret
def xz3 : Option Code → Option xco
 | none => some .normal
 | some (.exit id) => some (.exit id)
 | some .ret => some .ret
 | _ => none
def xtq : Option Obj → Option (Nat × Option Code)
 | some ⟨_, _, true, .loop st pend _ _ _ _ _⟩ => some (st, pend)
 | some ⟨_, _, true, .fin st pend⟩ => some (st, pend)
 | _ => none
noncomputable def xaK (rnd : Bool) (res : List Nat) (N : Nat) : Code → Cfg → Tree (xco × Cfg)
 | .skip, c => .ret (.normal, c)
 | .region _ ops draw, c => (xib P Γ call yld N ops draw c).bind fun (s, H) => .ret (.normal, ⟨xe7 s, H⟩)
 | .seq a b, c => (xaK rnd res N a c).bind fun (x, c') => match x with
  | .normal => xaK rnd res N b c'
  | x => .ret (x, c')
 | .cond x t e, c => match readS [] (xak c.tmps) x with
  | some (.bool b) => .br b (xaK rnd res N t c) (xaK rnd res N e c)
  | some (.val (.bool b)) => (match b with | true => xaK rnd res N t c | false => xaK rnd res N e c)
  | _ => .bad
 | .block id body, c => (xaK rnd res N body c).bind fun (x, c') => match x with
  | .exit id' => if Nat.beq id' id then .ret (.normal, c') else .ret (.exit id', c')
  | x => .ret (x, c')
 | .loop body, c => xkb (fun c => match ask P Γ call yld N body c with | .known => xr5 (xiP (xaK rnd res N body c)) | _ => false) (xjN P res (xfm (xcS body) []) fun c => (xaK rnd res N body c).bind (xrT (xfm (xcS body) []) c)) (fun c => xaK rnd res N body c) 100 c
 | .rangeFunc f params assign body, c => if rnd then .bad else match readS [] (xak c.tmps) f with
  | some (.fn (.func g) first caps) =>
   (call g (first ++ [.yl c.heap.next] ++ caps) ⟨⟨c.heap.next, c.heap.next, true, .loop 0 none N c.tmps params assign body⟩ :: c.heap.objs, c.heap.next + 1⟩).bind fun (_, H2) =>
    match xtq (xah c.heap.next H2.objs) with
    | some (st, pend) => if Nat.beq st 1 then .bad else match xz3 pend with
     | some x => .ret (x, ⟨c.tmps, ⟨H2.objs.filter fun o => !(Nat.beq o.key c.heap.next), H2.next⟩⟩)
     | none => .bad
    | none => .bad
  | _ => .bad
 | .exit id, c => .ret (.exit id, c)
 | .ret, c => .ret (.ret, c)
 | .scope body, c => xaK rnd res N body c
 | .label _, c => .ret (.normal, c)
 | _, _ => .bad
def xmn (c : Cfg) : ResultVar → Option AV
 | .tmp t => c.tmps t
 | .cell a t => match c.tmps a with
  | some (.ptr key off) => match xah key c.heap.objs with
   | some ⟨_, _, _, .cells cs⟩ => xgf P t cs off
   | _ => none
  | _ => none
def xd9 (c : Cfg) : List ResultVar → Option (List AV)
 | [] => some []
 | r :: rs => match xmn P c r, xd9 c rs with
  | some v, some vs => some (v :: vs)
  | _, _ => none
end exec
def xyV (l : List ResultVar) : List Nat := l.flatMap fun | .tmp t => [t] | .cell a _ => [a]
def xfW (params : List Nat) (vs : List AV) (tm : Nat → Option AV) : Nat → Option AV :=
 match params, vs with
 | p :: ps, v :: vs => xfW ps vs (upd tm p (some v))
 | _, _ => tm
def xmR (key : Nat) (H : Heap) : Heap := ⟨H.objs.filter (fun o => !(Nat.beq o.key key)), H.next⟩
def xod (v : AV) (o : Obj) (H : Heap) : Tree (AV × Heap) := if xfw o.key H.objs then .bad else .ret (v, ⟨o :: H.objs, H.next⟩)
noncomputable def xo9 (P : Program) (Γ : Con) (call : xfr) (yld : Nat → List AV → Heap → Tree (AV × Heap)) (key : Nat) (args : List AV) (H : Heap) : Tree (AV × Heap) :=
 match xah key H.objs with
 | some ⟨_, ver, true, .loop 0 none N tm params assign body⟩ =>
  if args.length = params.size ∧ (params.toList.all fun p => Nat.blt p N) = true then
   (xaK P Γ call yld true [] N assign ⟨xfW params.toList args tm, xmR key H⟩).bind fun (x, c1) =>
    match x with
    | .normal => (xaK P Γ call yld true [] N body c1).bind fun (x, c2) =>
      match x with
      | .normal => xod (.val (.bool true)) ⟨key, ver, true, .loop 0 none N tm params assign body⟩ c2.heap
      | x => xod (.val (.bool false)) ⟨key, c2.heap.next, true, .fin 2 (xzD x)⟩ c2.heap
    | _ => .bad
  else .bad
 | _ => .bad
structure SeqQ where
 p : Prop
 key : Nat
 e : TypeId
 ks : List CK
 L : List (List (List Int))
abbrev xnA := FuncId → List AV → List Obj → Option SeqQ
def xde : xnA := fun _ _ _ => none
def xAR (j : Int) : Nat → Option AV := fun t => match t with | 0 => some (.int .i64 j) | _ => none
def xxx (yld : Nat → List AV → Heap → Tree (AV × Heap)) (key : Nat) (e : TypeId) (ks : List CK) (L : List (List (List Int))) (c : Cfg) : Tree (xco × Cfg) :=
 match (c.tmps 0).map AV.weak with
 | some (.int .i64 j) => .br (decide (j < (L.length : Int)))
   ((yld key [.sl c.heap.next] ⟨⟨c.heap.next, c.heap.next, true, .row e ks (L.getD j.toNat [])⟩ :: c.heap.objs, c.heap.next + 1⟩).bind fun y => match y.1 with
    | .val (.bool true) => .ret (.normal, ⟨upd c.tmps 0 (some (.int .i64 (j + 1))), y.2⟩)
    | .val (.bool false) => .ret (.exit 0, ⟨c.tmps, y.2⟩)
    | _ => .bad)
   (.ret (.exit 1, c))
 | _ => .bad
def xzB (y : xco × Cfg) : Tree (AV × Heap) :=
 match y.1 with
 | .exit 0 => .ret (.val (.bool false), y.2.heap)
 | .exit 1 => .ret (.val (.bool true), y.2.heap)
 | _ => .bad
noncomputable def xub (P : Program) (yld : Nat → List AV → Heap → Tree (AV × Heap)) (p : Prop) (key : Nat) (e : TypeId) (ks : List CK) (L : List (List (List Int))) (H : Heap) : Tree (AV × Heap) :=
 .need p ((xjN P [] [0] (xxx yld key e ks L) ⟨xAR 0, H⟩).bind xzB)
noncomputable def xyR (P : Program) (yld : Nat → List AV → Heap → Tree (AV × Heap)) (q : SeqQ) (H : Heap) : Tree (AV × Heap) := xub P yld q.p q.key q.e q.ks q.L H
mutual
noncomputable def xa6 (P : Program) (Γ : Con) (Ξ : xnA) : Nat → xfr
 | 0, _, _, _ => .bad
 | n + 1, f, args, H =>
  match Ξ f args H.objs with
  | some ⟨p, key, e, ks, L⟩ => xub P (xns P Γ Ξ n) p key e ks L H
  | none =>
  match P.funcs[f]? with
  | none => .bad
  | some fn =>
   match fn.body with
   | none => .bad
   | some code =>
    if fn.name ≠ "runtime.NumGoroutine" ∧ args.length ≤ fn.ntmps then
     (xaK P Γ (xa6 P Γ Ξ n) (xns P Γ Ξ n) false (xyV fn.results.toList) fn.ntmps code ⟨fun t => match args[t]? with | some v => some v | none => some (.val undef), H⟩).bind fun (x, c) =>
      match x with
      | .exit _ => .bad
      | _ => match xd9 P c fn.results.toList with
       | some [v] => (match xqM P c.heap.objs c.heap.next v with
        | some x => xsa [] x.p (.ret (x.v, restrict H.next (AV.keys x.v) (c.heap.eff x)))
        | none => .ret (v, restrict H.next (AV.keys v) c.heap))
       | some vs => .ret (.tup vs, restrict H.next (AV.keysL vs) c.heap)
       | none => .bad
    else .bad
noncomputable def xns (P : Program) (Γ : Con) (Ξ : xnA) : Nat → Nat → List AV → Heap → Tree (AV × Heap)
 | 0, _, _, _ => .bad
 | n + 1, key, args, H => xo9 P Γ (xa6 P Γ Ξ n) (xns P Γ Ξ n) key args H
end
end
end Go.Sy
set_option linter.unusedVariables false
namespace Go.Sy
open Go.RowKit
section
variable {P : Program} {X : List (Nat × Go.Obj)} {E : Env} {w0 w : World} {objs : List Obj} {n K : Nat} {ρ : Operand → Option AV} {e : Operand → Value}
theorem xrJ {o : Oper} {z : Eff} (h : xc3 n objs K z ∧ OpOk P E objs w K e o z ∧ z.nk ≤ 1) : xc3 n objs K z.strong ∧ OpOk P E objs w K e o z.strong ∧ z.strong.nk ≤ 1 := by
 obtain ⟨h1, h2, h3⟩ := h
 refine ⟨⟨h1.rm, h1.key, h1.uniq, h1.all, xvJ h1.val, h1.ver⟩, fun hp => ?_, h3⟩
 obtain ⟨E', w', nx, hr, hv, he⟩ := h2 hp
 refine ⟨E', w', nx, hr, ?_, ⟨he.agree, he.env, he.chg, he.bodies, he.own, he.ro, he.inj, he.dp, he.dq, he.df⟩⟩
 show nx = .value (z.v.strong.den E') ∨ (nx = .skip ∧ z.v.strong.den E' = undef)
 rw [xvu]; exact hv
theorem xgW (hH : xaf X E w0 ⟨objs, n⟩ w) (hρ : ∀ x v, ρ x = some v → e x = v.den E ∧ AV.lt K v) (hKn : K ≤ n) (o : Oper) {z : Eff} (h : xle P ρ objs K o.op = some z) (hfr : z.nk ≠ 0 → ∀ o ∈ objs, o.key ≠ K ∧ xaY (fun k => k ≠ K) o.body) :
  xc3 n objs K z ∧ OpOk P E objs w K e o z ∧ z.nk ≤ 1 := by
 have hρ' : ∀ x v, (ρ x).map AV.weak = some v → e x = v.den E ∧ AV.lt K v := by
  intro x v hx
  cases hv : ρ x with
  | none => rw [hv] at hx; cases hx
  | some u =>
   rw [hv] at hx
   cases hx
   exact ⟨by rw [xfl]; exact (hρ x u hv).1, xof u (hρ x u hv).2⟩
 have wk : ∀ {z : Eff}, (z.nk ≠ 0 → ∀ o ∈ objs, o.key ≠ K ∧ xaY (fun k => k ≠ K) o.body) → xez P (fun z => (ρ z).map AV.weak) objs K o.op = some z → xc3 n objs K z ∧ OpOk P E objs w K e o z ∧ z.nk ≤ 1 := fun hfr h => xny hH hρ' hKn o h hfr
 have st : ∀ {z : Eff}, (z.nk ≠ 0 → ∀ o ∈ objs, o.key ≠ K ∧ xaY (fun k => k ≠ K) o.body) → (xez P (fun z => (ρ z).map AV.weak) objs K o.op).map Eff.strong = some z → xc3 n objs K z ∧ OpOk P E objs w K e o z ∧ z.nk ≤ 1 := by
  intro z hfr h
  cases hz : xez P (fun z => (ρ z).map AV.weak) objs K o.op with
  | none => rw [hz] at h; cases h
  | some z0 =>
   rw [hz] at h
   cases h
   exact xrJ (wk hfr hz)
 unfold xle at h
 split at h
 ·split at h
  ·exact st hfr h
  ·exact wk hfr h
 ·split at h
  ·exact st hfr h
  ·exact wk hfr h
 ·split at h
  ·exact st hfr h
  ·exact wk hfr h
 ·exact wk hfr h
 ·exact wk hfr h
 ·exact xny hH hρ hKn o h hfr
theorem xx2 (hH : xaf X E w0 ⟨objs, n⟩ w) (hρ : ∀ x v, ρ x = some v → AV.lt K v) (hKn : K ≤ n) (op : Op) {z : Eff} (h : xle P ρ objs K op = some z) (hfr : z.nk ≠ 0 → ∀ o ∈ objs, o.key ≠ K ∧ xaY (fun k => k ≠ K) o.body) : xc3 n objs K z ∧ z.nk ≤ 1 := by
 obtain ⟨h1, _, h3⟩ := xgW (P := P) (e := fun x => match ρ x with | some v => v.den E | none => undef) hH (fun x v hx => ⟨by simp [hx], hρ x v hx⟩) hKn { (default : Oper) with op := op } h hfr
 exact ⟨h1, h3⟩
theorem xaJ {α : Type} {Q Q' : α → Prop} (h : ∀ a, Q a → Q' a) : ∀ {t : Tree α}, t.holds Q → t.holds Q'
 | .ret a, ht => h a ht
 | .br _ _ _, ht => ⟨fun hb => xaJ h (ht.1 hb), fun hb => xaJ h (ht.2 hb)⟩
 | .need _ _, ht => ⟨ht.1, xaJ h ht.2⟩
 | .ask _ _ _, ht => ⟨fun hp => xaJ h (ht.1 hp), xaJ h ht.2⟩
 | .bad, ht => ht
theorem xbo {α β : Type} {f : α → Tree β} {Q : β → Prop} : ∀ {t : Tree α}, (t.bind f).holds Q → t.holds fun a => (f a).holds Q
 | .ret _, ht => ht
 | .br _ _ _, ht => ⟨fun hb => xbo (ht.1 hb), fun hb => xbo (ht.2 hb)⟩
 | .need _ _, ht => ⟨ht.1, xbo ht.2⟩
 | .ask _ _ _, ht => ⟨fun hp => xbo (ht.1 hp), xbo ht.2⟩
 | .bad, ht => ht
def Tree.all {α : Type} : Tree α → (α → Prop) → Prop
 | .ret a, Q => Q a
 | .br _ t e, Q => t.all Q ∧ e.all Q
 | .need _ t, Q => t.all Q
 | .ask _ t e, Q => t.all Q ∧ e.all Q
 | .bad, _ => True
theorem xc2 {α β : Type} {f : α → Tree β} {Q : β → Prop} : ∀ {t : Tree α}, (t.all fun a => (f a).all Q) → (t.bind f).all Q
 | .ret _, ht => ht
 | .br _ _ _, ht => ⟨xc2 ht.1, xc2 ht.2⟩
 | .need _ t, ht => xc2 (t := t) ht
 | .ask _ _ _, ht => ⟨xc2 ht.1, xc2 ht.2⟩
 | .bad, ht => ht
theorem xcb {α : Type} {Q Q' : α → Prop} (h : ∀ a, Q a → Q' a) : ∀ {t : Tree α}, t.all Q → t.all Q'
 | .ret a, ht => h a ht
 | .br _ _ _, ht => ⟨xcb h ht.1, xcb h ht.2⟩
 | .need _ t, ht => xcb h (t := t) ht
 | .ask _ _ _, ht => ⟨xcb h ht.1, xcb h ht.2⟩
 | .bad, ht => ht
theorem xh8 {α : Type} {Q Q' : α → Prop} : ∀ {t : Tree α}, t.holds Q → t.all Q' → t.holds fun a => Q a ∧ Q' a
 | .ret _, h, h' => ⟨h, h'⟩
 | .br _ _ _, h, h' => ⟨fun hb => xh8 (h.1 hb) h'.1, fun hb => xh8 (h.2 hb) h'.2⟩
 | .need _ t, h, h' => ⟨h.1, xh8 (t := t) h.2 h'⟩
 | .ask _ _ _, h, h' => ⟨fun hp => xh8 (h.1 hp) h'.1, xh8 h.2 h'.2⟩
 | .bad, h, _ => h
theorem xfT {α : Type} {Q : α → Prop} (h : ∀ a, Q a) : ∀ (t : Tree α), t.all Q
 | .ret a => h a
 | .br _ t e => ⟨xfT h t, xfT h e⟩
 | .need _ t => xfT h t
 | .ask _ t e => ⟨xfT h t, xfT h e⟩
 | .bad => trivial
theorem xdh {α : Type} {p : Prop} {o : Option α} {a : α} (h : xae p o = some a) : p ∧ o = some a := by
 unfold xae at h
 split at h
 ·rename_i hp; exact ⟨hp, h⟩
 ·cases h
theorem xvp {α : Type} {p : Prop} (hp : p) (o : Option α) : xae p o = o := by unfold xae; exact if_pos hp
theorem xeU {α : Type} {a : α} {Q : α → Prop} (hQ : Q a) : ∀ {t : Tree α}, t.opt = some a → t.holds Q
 | .ret b, h => by cases h; exact hQ
 | .br b t e, h => by
  cases b with
  | true => exact ⟨fun _ => xeU hQ h, fun hb => (by cases hb)⟩
  | false => exact ⟨fun hb => (by cases hb), fun _ => xeU hQ h⟩
 | .need p t, h => ⟨(xdh h).1, xeU hQ (xdh h).2⟩
 | .ask p t e, h => ⟨fun hp => xeU hQ (((xdh h).1 hp).trans (xdh h).2), xeU hQ (xdh h).2⟩
 | .bad, h => by cases h
def xdi (P : Program) (f : FuncId) : Prop := ∃ fn, P.funcs[f]? = some fn ∧ fn.name ≠ "runtime.NumGoroutine" ∧ fn.body.isSome = true
def Old (H H' : Heap) : Prop := ∀ o' ∈ H'.objs, o'.ver < H.next → o' ∈ H.objs
theorem Old.refl (H : Heap) : Old H H := fun o h _ => h
theorem Old.trans {A B C : Heap} (h : Old A B) (k : Old B C) (hn : A.next ≤ B.next) : Old A C := fun o ho hv => h o (k o ho (Nat.lt_of_lt_of_le hv hn)) hv
theorem Old.eff {H : Heap} {x : Eff} (hv : ∀ o ∈ x.add, H.next ≤ o.ver) : Old H (H.eff x) := by
 intro o ho hlt
 rcases List.mem_append.1 ho with ho | ho
 ·exact absurd (hv o ho) (by omega)
 ·exact (List.mem_filter.1 ho).1
def xhg (P : Program) (call : xfr) : Prop := ∀ (X : List (Nat × Go.Obj)) (w0 : World) (f : FuncId) (args : List AV) (H : Heap) (E : Env) (w : World) (R : Ending → World → Prop),
 xaf X E w0 H w → AV.ltL H.next args →
 (call f args H).holds (fun x => ∀ E' w', (∀ k, k < H.next → E' k = E k) → xaf X E' w0 x.2 w' → AV.lt x.2.next x.1 → H.next ≤ x.2.next → Old H x.2 → R (.returned (x.1.den E')) w') →
 Calls P f (AV.denL E args).toArray w R
def xeK (P : Program) (call : xfr) : Prop := ∀ f args H, call f args H ≠ .bad → xdi P f
structure xma (E : Env) (w : World) (K : Nat) (x : Eff) (E' : Env) (w' : World) (S : Nat → Prop := fun _ => False) : Prop where
 agree : ∀ k, k < K → E' k = E k
 env : ∀ k, (E' k).oneCell' = true
 below : Blw w.heap.size w w'
 bodies : ∀ o ∈ x.add, xaU E' w' o.key o.own o.body
 own : ∀ o ∈ x.add, ∀ b, blkO (E' o.key) = some b → w.heap.size ≤ b ∨ (o.own = false ∧ xlF o.body = false ∧ S b)
 inj : ∀ o ∈ x.add, ∀ o' ∈ x.add, o.own = true → o.key ≠ o'.key → ∀ b, blkO (E' o.key) = some b → blkO (E' o'.key) ≠ some b
 inn : ∀ o ∈ x.add, ∀ b, Inn E' w' o.key o.body b → w.heap.size ≤ b
 dq : ∀ o ∈ x.add, ∀ b, Inn E' w' o.key o.body b → ∀ o' ∈ x.add, o'.own = true → blkO (E' o'.key) ≠ some b
theorem xma.mono {E : Env} {w : World} {K : Nat} {x : Eff} {E' : Env} {w' : World} {S S' : Nat → Prop} (h : xma E w K x E' w' S) (hS : ∀ b, S b → S' b) : xma E w K x E' w' S' :=
 ⟨h.agree, h.env, h.below, h.bodies, fun o ho b hb => (h.own o ho b hb).imp id fun ⟨h1, h2, h3⟩ => ⟨h1, h2, hS b h3⟩, h.inj, h.inn, h.dq⟩
structure xfx (K : Nat) (x : Eff) : Prop where
 rm : x.rm = []
 key : ∀ o ∈ x.add, K ≤ o.key ∧ o.key < K + x.nk
 uniq : (x.add.map fun o => o.key).Nodup
 flat : ∀ o ∈ x.add, xaX o.body = true
 val : AV.lt (K + x.nk) x.v
 ver : ∀ o ∈ x.add, K ≤ o.ver
theorem xca {p : Nat → Prop} {b : Body} (h : xaX b = true) : xaY p b := by
 cases b <;> first | trivial | cases h
theorem xgm : ∀ {xs : List Obj} {o o' : Obj}, (xs.map (fun o => o.key)).Nodup → o ∈ xs → o' ∈ xs → o.key = o'.key → o = o'
 | x :: xs, o, o', hn, ho, ho', hk => by
  rw [List.map_cons, List.nodup_cons] at hn
  rcases List.mem_cons.1 ho with h1 | h1 <;> rcases List.mem_cons.1 ho' with h2 | h2
  ·rw [h1, h2]
  ·exact absurd (List.mem_map.2 ⟨o', h2, by rw [← hk, h1]⟩) hn.1
  ·exact absurd (List.mem_map.2 ⟨o, h1, by rw [hk, h2]⟩) hn.1
  ·exact xgm hn.2 h1 h2 hk
theorem xfx.eff {x : Eff} (h : xfx K x) : xc3 n objs K x :=
 ⟨by rw [h.rm]; simp, fun o ho => .inr (h.key o ho), fun o ho o' ho' hk => xgm h.uniq ho ho' hk, fun o ho => xca (h.flat o ho), xds (fun k hk => .inr hk) _ h.val, h.ver⟩
theorem xfK {E1 E2 : Env} {w : World} {key : Nat} {b : Body} (hk : E2 key = E1 key) {g : Nat} (h : Inn E2 w key b g) : Inn E1 w key b g := by
 cases b with
 | nst e ks l => obtain ⟨a, j, u, h1, h2⟩ := h; exact ⟨a, j, u, by rw [← hk]; exact h1, h2⟩
 | mq kt et q ks l => obtain ⟨m, es, clock, h1, h2⟩ := h; exact ⟨m, es, clock, by rw [← hk]; exact h1, h2⟩
 | _ => exact h.elim
theorem xrf {E1 E2 : Env} {w : World} {k1 k2 : Nat} {b : Body} (hk : E2 k2 = E1 k1) {g : Nat} (h : Inn E2 w k2 b g) : Inn E1 w k1 b g := by
 cases b with
 | nst e ks l => obtain ⟨a, j, u, h1, h2⟩ := h; exact ⟨a, j, u, by rw [← hk]; exact h1, h2⟩
 | mq kt et q ks l => obtain ⟨m, es, clock, h1, h2⟩ := h; exact ⟨m, es, clock, by rw [← hk]; exact h1, h2⟩
 | _ => exact h.elim
theorem xlb {E1 E2 : Env} {w : World} {key : Nat} {own : Bool} {b : Body} (hf : xaX b = true) (hk : E2 key = E1 key) (h : xaU E1 w key own b) : xaU E2 w key own b := by
 cases b with
 | row e ks l => show xaT w own e ks.length (E2 key) l.length (rowV ks l); rw [hk]; exact h
 | nil => exact hk.trans h
 | nst e ks l => obtain ⟨vs, h⟩ := h; exact ⟨vs, by rw [hk]; exact h⟩
 | sub e ks l => exact ⟨h.1, by rw [hk]; exact h.2⟩
 | mq kt et q ks l => obtain ⟨b, es, clock, h⟩ := h; exact ⟨b, es, clock, by rw [hk]; exact h⟩
 | cells => cases hf
 | arr => cases hf
 | mp => cases hf
 | fin => cases hf
 | loop => cases hf
theorem xma.effOk {x : Eff} {E' : Env} {w' : World} {S : Nat → Prop} (hE : ∀ k, (E k).oneCell' = true) (hw : xfx K x) (h : xma E w K x E' w' S) (hS : ∀ b, S b → ∃ o' ∈ objs, Inn E w o'.key o'.body b) : xen E objs w K x (fun k => if K + x.nk ≤ k then E k else E' k) w' ∧ x.v.den (fun k => if K + x.nk ≤ k then E k else E' k) = x.v.den E' := by
 have hkey : ∀ o ∈ x.add, (if K + x.nk ≤ o.key then E o.key else E' o.key) = E' o.key := fun o ho => if_neg (by have := (hw.key o ho).2; omega)
 refine ⟨⟨fun k hk => ?_, fun k => ?_, ?_, fun o ho => xlb (hw.flat o ho) (hkey o ho) (h.bodies o ho), ?_, ?_, ?_, ?_, ?_, ?_⟩, xcr (fun k (hk : k < K + x.nk) => if_neg (by omega)) _ hw.val⟩
 ·rcases hk with hk | hk
  ·show (if K + x.nk ≤ k then E k else E' k) = E k
   rw [if_neg (by omega)]; exact h.agree k hk
  ·exact if_pos hk
 ·show (if K + x.nk ≤ k then E k else E' k).oneCell' = true
  split
  ·exact hE k
  ·exact h.env k
 ·rw [hw.rm]; exact Chg.of_below h.below _
 ·intro o ho hown b hb
  simp only [hkey o ho] at hb
  rcases h.own o ho b hb with h1 | ⟨h1, _⟩
  ·exact .inl h1
  ·rw [hown] at h1; cases h1
 ·intro o ho _ b hb
  simp only [hkey o ho] at hb
  rcases h.own o ho b hb with h1 | ⟨_, _, h1⟩
  ·exact .inl h1
  ·exact .inr (.inr (.inr (hS b h1)))
 ·intro o ho o' ho' hown hne b hb; simp only [hkey o ho] at hb; simp only [hkey o' ho']; exact h.inj o ho o' ho' hown hne b hb
 ·intro o ho b hb; exact .inl (h.inn o ho b (xfK (hkey o ho) hb))
 ·intro o ho b hb o' ho' hown; simp only [hkey o' ho']; exact h.dq o ho b (xfK (hkey o ho) hb) o' ho' hown
 ·intro o ho b hb
  rcases hb with ⟨hsub, hb⟩ | ⟨_, hb⟩
  ·simp only [hkey o ho] at hb
   rcases h.own o ho b hb with h1 | ⟨_, h1, _⟩
   ·exact .inl h1
   ·rw [h1] at hsub; cases hsub
  ·exact .inl (h.inn o ho b (xfK (hkey o ho) hb))
def xdd (E : Env) : Option Nat → Value
 | some k => E k
 | none => .slice none 0 0
theorem xmH {k : Nat} : ∀ {l : List (Option Nat)} {i j : Nat}, xrg k l i = some j → ∃ m, j = i + m ∧ l[m]? = some (some k)
 | [], i, j, h => by cases h
 | some k' :: r, i, j, h => by
  unfold xrg at h
  split at h
  ·rename_i hb; cases h; exact ⟨0, rfl, by simp [Nat.eq_of_beq_eq_true hb]⟩
  ·obtain ⟨m, h1, h2⟩ := xmH h
   exact ⟨m + 1, by omega, by simpa using h2⟩
 | none :: r, i, j, h => by
  unfold xrg at h
  obtain ⟨m, h1, h2⟩ := xmH h
  exact ⟨m + 1, by omega, by simpa using h2⟩
theorem xmI {k : Nat} : ∀ {l : List (Option Nat)} {i : Nat}, xrg k l i = none → some k ∉ l
 | [], i, h => by simp
 | some k' :: r, i, h => by
  unfold xrg at h
  split at h
  ·cases h
  ·rename_i hb
   intro hm
   rcases List.mem_cons.1 hm with hm | hm
   ·cases hm; exact hb (xcG k)
   ·exact xmI h hm
 | none :: r, i, h => by
  unfold xrg at h
  intro hm
  rcases List.mem_cons.1 hm with hm | hm
  ·cases hm
  ·exact xmI h hm
structure xc4 (acc acc' : List (Option Nat)) : Prop where
 ext : ∃ r, acc' = acc ++ r
 nodup : (∀ i j k : Nat, acc[i]? = some (some k) → acc[j]? = some (some k) → i = j) → ∀ i j k : Nat, acc'[i]? = some (some k) → acc'[j]? = some (some k) → i = j
theorem xc4.refl (acc : List (Option Nat)) : xc4 acc acc := ⟨⟨[], by simp⟩, fun h => h⟩
theorem xc4.trans {a b c : List (Option Nat)} (h : xc4 a b) (k : xc4 b c) : xc4 a c := by
 obtain ⟨r, rfl⟩ := h.ext
 obtain ⟨s, rfl⟩ := k.ext
 exact ⟨⟨r ++ s, by simp⟩, fun hn => k.nodup (h.nodup hn)⟩
theorem xc4.le {a b : List (Option Nat)} (h : xc4 a b) : a.length ≤ b.length := by obtain ⟨r, rfl⟩ := h.ext; simp
theorem xc4.get {a b : List (Option Nat)} (h : xc4 a b) {i : Nat} {o : Option Nat} (hi : a[i]? = some o) : b[i]? = some o := by
 obtain ⟨r, rfl⟩ := h.ext
 rw [List.getElem?_append_left (List.getElem?_eq_some_iff.1 hi).1]; exact hi
theorem xjn {acc : List (Option Nat)} {o : Option Nat} (h : ∀ k, o = some k → some k ∉ acc) : xc4 acc (acc ++ [o]) := by
 refine ⟨⟨[o], rfl⟩, fun hn i j k hi hj => ?_⟩
 have key : ∀ i k : Nat, (acc ++ [o])[i]? = some (some k) → (i < acc.length ∧ acc[i]? = some (some k)) ∨ (i = acc.length ∧ o = some k) := by
  intro i k hi
  by_cases hl : i < acc.length
  ·rw [List.getElem?_append_left hl] at hi; exact .inl ⟨hl, hi⟩
  ·rw [List.getElem?_append_right (by omega)] at hi
   have : i - acc.length = 0 := by have := (List.getElem?_eq_some_iff.1 hi).1; simp at this; omega
   rw [this] at hi
   simp at hi
   exact .inr ⟨by omega, hi⟩
 rcases key i k hi with ⟨_, h1⟩ | ⟨e1, h1⟩ <;> rcases key j k hj with ⟨_, h2⟩ | ⟨e2, h2⟩
 ·exact hn i j k h1 h2
 ·exact absurd (List.mem_of_getElem? h1) (h k h2)
 ·exact absurd (List.mem_of_getElem? h2) (h k h1)
 ·omega
mutual
theorem xkS {K : Nat} {E1 : Env} : ∀ (v : AV) (acc : List (Option Nat)) (v' : AV) (acc' : List (Option Nat)), xmp K v acc = some (v', acc') →
  xc4 acc acc' ∧ AV.lt (K + acc'.length) v' ∧ ∀ E' : Env, (∀ k, k < K → E' k = E1 k) → (∀ i o, acc'[i]? = some o → E' (K + i) = xdd E1 o) → v'.den E' = v.den E1
 | .sl k, acc, v', acc', h => by
  unfold xmp at h
  split at h
  ·rename_i hk
   cases h
   have hk : k < K := by simpa using hk
   exact ⟨xc4.refl _, show k < _ by omega, fun E' h1 _ => h1 k hk⟩
  ·split at h
   ·rename_i i hi
    cases h
    obtain ⟨m, h1, h2⟩ := xmH hi
    have hm : i = m := by omega
    subst hm
    have hlt := (List.getElem?_eq_some_iff.1 h2).1
    exact ⟨xc4.refl _, show K + i < _ by omega, fun E' _ h3 => h3 i _ h2⟩
   ·rename_i hi
    cases h
    refine ⟨xjn (fun k' hk' => by cases hk'; exact xmI hi), show K + acc.length < K + (acc ++ [some k]).length by simp, fun E' _ h3 => h3 acc.length (some k) (by simp)⟩
 | .val (.slice none 0 0), acc, v', acc', h => by
  simp only [xmp] at h
  cases h
  exact ⟨xjn (fun k' hk' => by cases hk'), show K + acc.length < K + (acc ++ [none]).length by simp, fun E' _ h3 => h3 acc.length none (by simp)⟩
 | .ptr k off, acc, v', acc', h => by
  unfold xmp at h
  split at h
  ·rename_i hk
   cases h
   have hk : k < K := by simpa using hk
   exact ⟨xc4.refl _, show k < _ by omega, fun E' h1 _ => by simp [AV.den, h1 k hk]⟩
  ·cases h
 | .yl k, acc, v', acc', h => by
  unfold xmp at h
  split at h
  ·rename_i hk
   cases h
   have hk : k < K := by simpa using hk
   exact ⟨xc4.refl _, show k < _ by omega, fun E' h1 _ => by simp [AV.den, h1 k hk]⟩
  ·cases h
 | .vw k sz lo hi, acc, v', acc', h => by
  unfold xmp at h
  split at h
  ·rename_i hk
   cases h
   have hk : k < K := by simpa using hk
   exact ⟨xc4.refl _, show k < _ by omega, fun E' h1 _ => by simp [AV.den, h1 k hk]⟩
  ·cases h
 | .fn _ _ _, acc, v', acc', h => by cases h
 | .ix _ _ _ _ _, acc, v', acc', h => by cases h
 | .agg cs, acc, v', acc', h => by
  unfold xmp at h
  split at h
  ·rename_i cs' acc1 hl
   cases h
   obtain ⟨h1, h2, h3⟩ := xkT (E1 := E1) cs acc cs' acc' hl
   exact ⟨h1, h2, fun E' a b => by simp [AV.den, h3 E' a b]⟩
  ·cases h
 | .tup cs, acc, v', acc', h => by
  unfold xmp at h
  split at h
  ·rename_i cs' acc1 hl
   cases h
   obtain ⟨h1, h2, h3⟩ := xkT (E1 := E1) cs acc cs' acc' hl
   exact ⟨h1, h2, fun E' a b => by simp [AV.den, h3 E' a b]⟩
  ·cases h
 | .bool b, acc, v', acc', h => by simp only [xmp] at h; cases h; exact ⟨xc4.refl _, trivial, fun _ _ _ => rfl⟩
 | .int k b, acc, v', acc', h => by simp only [xmp] at h; cases h; exact ⟨xc4.refl _, trivial, fun _ _ _ => rfl⟩
 | .val v, acc, v', acc', h => by
  unfold xmp at h
  split at h <;> first
   | (cases h; done)
   | (rename_i heq; cases heq)
   | skip
  all_goals first
   | (cases h; exact ⟨xjn (fun k' hk' => by cases hk'), (by show K + _ < K + _; simp), fun E' _ h3 => h3 _ none (by simp)⟩)
   | (cases h; exact ⟨xc4.refl _, trivial, fun _ _ _ => rfl⟩)
theorem xkT {K : Nat} {E1 : Env} : ∀ (l : List AV) (acc : List (Option Nat)) (l' : List AV) (acc' : List (Option Nat)), xwc K l acc = some (l', acc') →
  xc4 acc acc' ∧ AV.ltL (K + acc'.length) l' ∧ ∀ E' : Env, (∀ k, k < K → E' k = E1 k) → (∀ i o, acc'[i]? = some o → E' (K + i) = xdd E1 o) → AV.denL E' l' = AV.denL E1 l
 | [], acc, l', acc', h => by cases h; exact ⟨xc4.refl _, trivial, fun _ _ _ => rfl⟩
 | a :: r, acc, l', acc', h => by
  unfold xwc at h
  split at h
  ·rename_i a' acc1 ha
   split at h
   ·rename_i r' acc2 hr
    cases h
    obtain ⟨a1, a2, a3⟩ := xkS (E1 := E1) a acc a' acc1 ha
    obtain ⟨b1, b2, b3⟩ := xkT (E1 := E1) r acc1 r' acc' hr
    have := b1.le
    refine ⟨a1.trans b1, ⟨xe9 (by omega) _ a2, b2⟩, fun E' h1 h2 => ?_⟩
    rw [AV.denL, AV.denL, a3 E' h1 (fun i o hi => h2 i o (b1.get hi)), b3 E' h1 h2]
   ·cases h
  ·cases h
end
end
end Go.Sy
