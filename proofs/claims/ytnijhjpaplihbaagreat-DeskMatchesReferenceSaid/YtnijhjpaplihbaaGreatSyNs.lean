/-
 Rows whose elements hold slices: literals, loads, append.
-/
import Derived.Test.YtnijhjpaplihbaaGreatSyS
import Derived.Test.YtnijhjpaplihbaaGreatSyI2
set_option linter.unusedVariables false
namespace Go.Sy
open Go.RowKit
section
variable {P : Program} {X : List (Nat × Go.Obj)} {E : Env} {w0 w : World} {objs : List Obj} {n K : Nat} {ρ : Operand → Option AV} {e : Operand → Value}
theorem xjr.inn {own : Bool} {e : TypeId} {ks : List NK} {key : Nat} {l : List (List Int)} {vs : List Value} (h : xjr w own e ks (E key) l vs) {j : Nat} {u : Value} (hj : vs[j]? = some u) {g : Nat} (hg : blkO u = some g) : Inn E w key (.nst e ks l) g := by
 obtain ⟨a, ha, hc', _⟩ := h.row.reads.blkHead h.row.len hj
 exact ⟨a, j, u, ha, (h.get hj).1, hc', hg⟩
theorem xjr.of_inn {own : Bool} {e : TypeId} {ks : List NK} {key : Nat} {l : List (List Int)} {vs : List Value} (h : xjr w own e ks (E key) l vs) {g : Nat} (hg : Inn E w key (.nst e ks l) g) : ∃ (j : Nat) (u : Value), vs[j]? = some u ∧ blkO u = some g := by
 obtain ⟨a, j, u, ha, hj, hc, hb⟩ := hg
 have hjv : j < vs.length := by rw [h.row.len]; exact hj
 obtain ⟨a', ha', hc'⟩ := h.row.reads.cell j vs[j] (List.getElem?_eq_getElem hjv)
 rw [ha] at ha'
 cases ha'
 rw [hc] at hc'
 exact ⟨j, u, by rw [List.getElem?_eq_getElem hjv]; exact hc'.symm, hb⟩
theorem xnj.one {k : NK} {m : Int} {u : Value} (h : xnj w k m u) : u.oneCell' = true := by
 cases k with
 | c k =>
  have h : u = k.val m := h
  rw [h]; cases k <;> rfl
 | s e ks => exact h.1
theorem xnj.move {w' : World} {k : NK} {m : Int} {u : Value} (h : xnj w k m u) (hw : ∀ g, blkO u = some g → w'.heap[g]? = w.heap[g]?) (hs : w.heap.size ≤ w'.heap.size) : xnj w' k m u := by
 cases k with
 | c k => exact h
 | s e ks => exact ⟨h.1, h.2.move hw hs⟩
structure EncG (P : Program) (objs : List Obj) (K : Nat) (rm : List Nat) (subs : List Obj) : Prop where
 gone : ∀ k ∈ rm, ∃ o ∈ objs, o.key = k ∧ o.own = true
 sub : ∀ s ∈ subs, ∃ o ∈ objs, xai s.key objs = some o ∧ o.own = true ∧ o.key = s.key ∧ s.key ∈ rm ∧ s.own = false ∧ s.ver = K ∧ ∃ e ks l, s.body = .sub e ks l ∧ xe6 P o.body = some (e, ks, l)
theorem EncG.nil : EncG P objs K [] [] := ⟨by simp, by simp⟩
theorem EncG.app {r r' : List Nat} {s s' : List Obj} (h : EncG P objs K r s) (h' : EncG P objs K r' s') : EncG P objs K (r ++ r') (s ++ s') := by
 refine ⟨fun k hk => ?_, fun k hk => ?_⟩
 ·rcases List.mem_append.1 hk with hk | hk
  ·exact h.gone k hk
  ·exact h'.gone k hk
 ·rcases List.mem_append.1 hk with hk | hk
  ·obtain ⟨o, h1, h2, h3, h4, h5, h6⟩ := h.sub k hk
   exact ⟨o, h1, h2, h3, h4, List.mem_append.2 (.inl h5), h6⟩
  ·obtain ⟨o, h1, h2, h3, h4, h5, h6⟩ := h'.sub k hk
   exact ⟨o, h1, h2, h3, h4, List.mem_append.2 (.inr h5), h6⟩
def EncB (E : Env) (objs : List Obj) (rm : List Nat) (u : Value) : Prop := ∀ b, blkO u = some b → (∃ k ∈ rm, blkO (E k) = some b) ∨ ∃ o ∈ objs, o.own = false ∧ xqD o.body = true ∧ blkO (E o.key) = some b
theorem EncB.mono {r r' : List Nat} {u : Value} (h : EncB E objs r u) (hr : ∀ k ∈ r, k ∈ r') : EncB E objs r' u := fun b hb => by
 rcases h b hb with ⟨k, hk, h1⟩ | h1
 ·exact .inl ⟨k, hr k hk, h1⟩
 ·exact .inr h1
theorem xBM {k : CK} {m : Int} {b : Nat} (h : blkO (k.val m) = some b) : False := by cases k <;> cases h
theorem xCk {e : TypeId} {sz : Nat} : xbc w false e sz (.slice none 0 0) 0 [] :=
 ⟨⟨⟨none, 0, rfl, Nat.le_refl _, Nat.zero_le _⟩, by simp, by simp [blkO]⟩, by simp, by simp⟩
theorem xBB (hH : xag X E w0 ⟨objs, n⟩ w) {E' : Env} {w' : World} (hE : ∀ o ∈ objs, E' o.key = E o.key) (hw : ∀ g, g < w.heap.size → w'.heap[g]? = w.heap[g]?) (hs : w.heap.size ≤ w'.heap.size)
  {k : NK} {v : AV} {m : Int} {rm : List Nat} {subs : List Obj} (h : encK P objs K k v = some (m, rm, subs)) : xnj w' k m (v.den E') ∧ EncG P objs K rm subs ∧ EncB E objs rm (v.den E') := by
 have nilCell : ∀ {e : TypeId} {ks : List CK}, xnj w' (.s e ks) (encL []) (.slice none 0 0) := by
  intro e ks
  refine ⟨rfl, ?_⟩
  rw [xtv]
  exact xCk
 have nilB : EncB E objs [] (.slice none 0 0) := fun b hb => by cases hb
 unfold encK at h
 split at h
 ·-- plain
  rename_i k v
  split at h
  ·rename_i m' hc
   cases h
   have := xzr E' hc
   exact ⟨this, EncG.nil, fun b hb => by rw [this] at hb; exact (xBM hb).elim⟩
  ·cases h
 ·rename_i e ks key
  split at h
  case h_2 => cases h
  rename_i k0 ver own b hf
  obtain ⟨hm, hk⟩ := xah hf
  have hk : k0 = key := hk
  subst hk
  have hb := hH.objs _ hm
  have hEk : E' k0 = E k0 := hE _ hm
  have cell : ∀ {l : List (List Int)}, xe6 P b = some (e, ks, l) → xnj w' (.s e ks) (encL l) (E k0) := by
   intro l hr
   have hrow := xbT hr hb
   refine ⟨hH.env _, ?_⟩
   rw [xtv]
   refine xbc.move ⟨hrow.reads, hrow.len, fun h => by cases h⟩ (fun g hg => hw g (hrow.reads.blk g hg)) hs
  split at h
  ·rename_i e' ks' l hr
   split at h
   case isFalse => cases h
   rename_i hc
   obtain ⟨rfl, rfl⟩ := hc
   simp only [AV.den, hEk]
   split at h
   ·cases h
    refine ⟨cell hr, ⟨?_, ?_⟩, fun b hb => .inl ⟨k0, by simp, hb⟩⟩
    ·intro k hk; simp at hk; subst hk; exact ⟨_, hm, rfl, rfl⟩
    ·intro s hs; simp at hs; subst hs
     exact ⟨_, hm, hf, rfl, rfl, by simp, rfl, rfl, _, _, _, rfl, hr⟩
   ·split at h
    ·rename_i hsub
     cases h
     exact ⟨cell hr, EncG.nil, fun b hb => .inr ⟨_, hm, rfl, hsub, hb⟩⟩
    ·cases h
  ·split at h
   ·cases h
    have hb : E k0 = .slice none 0 0 := hb
    simp only [AV.den, hEk, hb]
    exact ⟨nilCell, EncG.nil, nilB⟩
   ·cases h
 ·cases h
  exact ⟨nilCell, EncG.nil, nilB⟩
 ·cases h
theorem xxx (hH : xag X E w0 ⟨objs, n⟩ w) {E' : Env} {w' : World} (hE : ∀ o ∈ objs, E' o.key = E o.key) (hw : ∀ g, g < w.heap.size → w'.heap[g]? = w.heap[g]?) (hs : w.heap.size ≤ w'.heap.size) :
  ∀ {ks : List NK} {vs : List AV} {ns : List Int} {rm : List Nat} {subs : List Obj}, encE P objs K ks vs = some (ns, rm, subs) →
   (∀ (j : Nat) (k : NK) (v : AV), ks[j]? = some k → vs[j]? = some v → xnj w' k (ns.getD j 0) (v.den E')) ∧ EncG P objs K rm subs ∧ (∀ v ∈ vs, EncB E objs rm (v.den E')) ∧ vs.length = ks.length
 | [], [], ns, rm, subs, h => by cases h; exact ⟨by simp, EncG.nil, by simp, rfl⟩
 | k :: ks, v :: vs, ns, rm, subs, h => by
  unfold encE at h
  split at h
  ·rename_i m r s ms rs ss h1 h2
   cases h
   obtain ⟨a1, a2, a3⟩ := xBB hH hE hw hs h1
   obtain ⟨b1, b2, b3, b4⟩ := xxx hH hE hw hs h2
   refine ⟨fun j k' v' hk hv => ?_, a2.app b2, fun v' hv => ?_, by simp [b4]⟩
   ·cases j with
    | zero => simp at hk hv; subst hk; subst hv; exact a1
    | succ j => simp at hk hv; simpa using b1 j k' v' hk hv
   ·rcases List.mem_cons.1 hv with rfl | hv
    ·exact a3.mono fun k hk => List.mem_append.2 (.inl hk)
    ·exact (b3 v' hv).mono fun k hk => List.mem_append.2 (.inr hk)
  ·cases h
 | [], _ :: _, _, _, _, h => by cases h
 | _ :: _, [], _, _, _, h => by cases h
theorem xxw (hH : xag X E w0 ⟨objs, n⟩ w) {E' : Env} {w' : World} (hE : ∀ o ∈ objs, E' o.key = E o.key) (hw : ∀ g, g < w.heap.size → w'.heap[g]? = w.heap[g]?) (hs : w.heap.size ≤ w'.heap.size) {ks : List NK} :
  ∀ {els : List (List AV)} {l : List (List Int)} {rm : List Nat} {subs : List Obj}, encR P objs K ks els = some (l, rm, subs) →
   (∀ (i j : Nat) (k : NK) (el : List AV) (v : AV), els[i]? = some el → ks[j]? = some k → el[j]? = some v → xnj w' k ((l.getD i []).getD j 0) (v.den E')) ∧ EncG P objs K rm subs ∧ (∀ el ∈ els, ∀ v ∈ el, EncB E objs rm (v.den E')) ∧ l.length = els.length
 | [], l, rm, subs, h => by cases h; exact ⟨by simp, EncG.nil, by simp, rfl⟩
 | el :: els, l, rm, subs, h => by
  unfold encR at h
  split at h
  ·rename_i m r s ms rs ss h1 h2
   cases h
   obtain ⟨a1, a2, a3, _⟩ := xxx hH hE hw hs h1
   obtain ⟨b1, b2, b3, b4⟩ := xxw hH hE hw hs h2
   refine ⟨fun i j k' el' v' hi hk hv => ?_, a2.app b2, fun el' hel v' hv => ?_, by simp [b4]⟩
   ·cases i with
    | zero => simp at hi; subst hi; exact a1 j k' v' hk hv
    | succ i => simp at hi; simpa using b1 i j k' el' v' hi hk hv
   ·rcases List.mem_cons.1 hel with rfl | hel
    ·exact (a3 v' hv).mono fun k hk => List.mem_append.2 (.inl hk)
    ·exact (b3 el' hel v' hv).mono fun k hk => List.mem_append.2 (.inr hk)
  ·cases h
theorem xxU (hH : xag X E w0 ⟨objs, n⟩ w) (hfr : ∀ o ∈ objs, o.key ≠ K) {x y : Eff} {E' : Env} {w' : World} (hx : xe7 n objs K x) (he : xhI E objs w K x E' w') (h : xtY P objs K x = some y) :
  xe7 n objs K y ∧ xhI E objs w K y E' w' ∧ y.v = x.v ∧ y.nk = 1 ∧ y.p = none := by
 unfold xtY at h
 split at h
 case h_2 => cases h
 rename_i k0 ver0 e sz els v
 split at h
 case isFalse => cases h
 rename_i hkv
 obtain ⟨rfl, rfl⟩ := hkv
 split at h
 case h_2 => cases h
 rename_i ks hks
 split at h
 case isFalse => cases h
 rename_i hsz
 rw [Bool.and_eq_true] at hsz
 have hsz : ks.length = sz := Nat.eq_of_beq_eq_true hsz.2
 subst hsz
 split at h
 case h_2 => cases h
 rename_i l rm subs henc
 cases h
 have hE : ∀ o ∈ objs, E' o.key = E o.key := fun o ho => he.agree _ (by have := hfr o ho; show o.key < _ ∨ _ + 1 ≤ o.key; omega)
 have hchg : ∀ g, g < w.heap.size → w'.heap[g]? = w.heap[g]? := fun g hg => he.chg.block g hg (by simp)
 obtain ⟨c1, c2, c3, c4⟩ := xxw hH hE hchg he.chg.size henc
 obtain ⟨r1, r2, r3⟩ := he.bodies _ (List.mem_singleton.2 rfl)
 have r2 : ∀ el ∈ els, el.length = ks.length := r2
 have hnst : xjr w' true e ks (E' ver0) l (AV.denL E' els.flatten) := by
  refine ⟨by rw [c4]; exact r1, fun i j k hi hj => ?_⟩
  have hi' : i < els.length := by rw [← c4]; exact hi
  have hel : els[i]? = some els[i] := List.getElem?_eq_getElem hi'
  have hjl : j < ks.length := (List.getElem?_eq_some_iff.1 hj).1
  have hlen := r2 els[i] (List.getElem_mem hi')
  have hv : (els[i])[j]? = some ((els[i])[j]'(by rw [hlen]; exact hjl)) := List.getElem?_eq_getElem _
  refine ⟨_, ?_, c1 i j k _ _ hel hj hv⟩
  rw [xax, List.getElem?_map, xoJ els i j _ r2 hel hjl, hv]
  rfl
 have hown0 : ∀ g, blkO (E' ver0) = some g → w.heap.size ≤ g := fun g hg => by
  rcases he.own _ (List.mem_singleton.2 rfl) rfl g hg with h | ⟨k, hk, _⟩
  ·exact h
  ·cases hk
 have hinn : ∀ g, Inn E' w' ver0 (.nst e ks l) g → (∃ k ∈ rm, blkO (E k) = some g) ∨ ∃ o ∈ objs, o.own = false ∧ xqD o.body = true ∧ blkO (E o.key) = some g := by
  intro g hg
  obtain ⟨j, u, hj, hb⟩ := hnst.of_inn hg
  rw [xax, List.getElem?_map] at hj
  obtain ⟨v, hv, rfl⟩ := Option.map_eq_some_iff.1 hj
  obtain ⟨el, hel, hvel⟩ := List.mem_flatten.1 (List.mem_of_getElem? hv)
  exact c3 el hel v hvel g hb
 have hinlt : ∀ g, Inn E' w' ver0 (.nst e ks l) g → g < w.heap.size := by
  intro g hg
  rcases hinn g hg with ⟨k, hk, h1⟩ | ⟨o, ho, _, _, h1⟩
  ·obtain ⟨o, ho, rfl, _⟩ := c2.gone k hk
   exact xlt (hH.objs o ho) h1
  ·exact xlt (hH.objs o ho) h1
 have hnk : ∀ k ∈ rm, k ≠ ver0 := fun k hk e => by
  obtain ⟨o, ho, rfl, _⟩ := c2.gone k hk
  exact hfr o ho e
 have hsubE : ∀ s ∈ subs, E' s.key = E s.key := fun s hs => by
  obtain ⟨o, ho, _, _, h3, _⟩ := c2.sub s hs
  rw [← h3]; exact hE o ho
 have hsubI : ∀ s ∈ subs, ∀ g, ¬ Inn E' w' s.key s.body g := fun s hs g hg => by
  obtain ⟨o, ho, _, _, _, _, _, _, e1, k1, l1, hb, _⟩ := c2.sub s hs
  rw [hb] at hg; exact hg
 have hshr : ∀ g, (∃ k ∈ rm, blkO (E k) = some g) ∨ (∃ o ∈ objs, o.own = false ∧ xqD o.body = true ∧ blkO (E o.key) = some g) → Shr E objs w rm g := by
  rintro g (h1 | ⟨o, ho, h2, h3, h4⟩)
  ·exact .inr (.inl h1)
  ·refine .inr (.inr (.inl ⟨o, ho, h2, fun hk => ?_, h4⟩))
   obtain ⟨o', ho', h5, h6⟩ := c2.gone _ hk
   have := hH.uniq o' ho' o ho h5
   rw [this, h2] at h6
   cases h6
 refine ⟨⟨c2.gone, ?_, ?_, ?_, hx.val, ?_⟩, ⟨he.agree, he.env, ?_, ?_, ?_, ?_, ?_, ?_, ?_, ?_⟩, rfl, rfl, rfl⟩
 ·intro o ho
  rcases List.mem_cons.1 ho with rfl | ho
  ·exact .inr ⟨Nat.le_refl _, Nat.lt_succ_self _⟩
  ·obtain ⟨_, _, _, _, _, h5, _⟩ := c2.sub o ho
   exact .inl h5
 ·intro o ho o' ho' hk
  rcases List.mem_cons.1 ho with rfl | ho <;> rcases List.mem_cons.1 ho' with rfl | ho'
  ·rfl
  ·exfalso
   obtain ⟨_, _, _, _, _, h5, _⟩ := c2.sub o' ho'
   exact hnk _ h5 hk.symm
  ·exfalso
   obtain ⟨_, _, _, _, _, h5, _⟩ := c2.sub o ho
   exact hnk _ h5 hk
  ·obtain ⟨o1, _, f1, _, _, _, g1, g2, e1, k1, l1, g3, g4⟩ := c2.sub o ho
   obtain ⟨o2, _, f2, _, _, _, g1', g2', e2, k2, l2, g3', g4'⟩ := c2.sub o' ho'
   rw [hk, f2] at f1
   cases f1
   rw [g4] at g4'
   cases g4'
   obtain ⟨a, b, c, d⟩ := o
   obtain ⟨a', b', c', d'⟩ := o'
   simp only [] at hk g1 g2 g3 g1' g2' g3'
   subst hk g1 g2 g3 g1' g2' g3'
   rfl
 ·intro o ho
  rcases List.mem_cons.1 ho with rfl | ho
  ·trivial
  ·obtain ⟨_, _, _, _, _, _, _, _, e1, k1, l1, hb, _⟩ := c2.sub o ho
   rw [hb]; trivial
 ·intro o ho
  rcases List.mem_cons.1 ho with rfl | ho
  ·exact Nat.le_refl _
  ·obtain ⟨_, _, _, _, _, _, _, h7, _⟩ := c2.sub o ho
   rw [h7]; exact Nat.le_refl _
 ·refine ⟨he.chg.drawn, he.chg.os, he.chg.tape, he.chg.output, he.chg.size, fun k hk _ => hchg k hk⟩
 ·intro o ho
  rcases List.mem_cons.1 ho with rfl | ho
  ·exact ⟨_, hnst⟩
  ·obtain ⟨o1, ho1, f1, f2, f3, _, g1, g2, e1, k1, l1, g3, g4⟩ := c2.sub o ho
   rw [g3, g1]
   refine ⟨rfl, ?_⟩
   rw [hsubE o ho, ← f3]
   have hrow := xbT g4 (hH.objs o1 ho1)
   exact xbc.move ⟨hrow.reads, hrow.len, fun h => by cases h⟩ (fun g hg => hchg g (hrow.reads.blk g hg)) he.chg.size
 ·intro o ho hown g hg
  rcases List.mem_cons.1 ho with rfl | ho
  ·exact .inl (hown0 g hg)
  ·obtain ⟨_, _, _, _, _, _, g1, _⟩ := c2.sub o ho
   rw [g1] at hown; cases hown
 ·intro o ho hown g hg
  rcases List.mem_cons.1 ho with rfl | ho
  ·cases hown
  ·obtain ⟨_, _, _, _, _, h5, _⟩ := c2.sub o ho
   rw [hsubE o ho] at hg
   exact .inr (.inl ⟨_, h5, hg⟩)
 ·intro o ho o' ho' hown hne g hg hg'
  rcases List.mem_cons.1 ho with rfl | ho
  ·rcases List.mem_cons.1 ho' with rfl | ho'
   ·exact hne rfl
   ·obtain ⟨o1, ho1, _, _, f3, _⟩ := c2.sub o' ho'
    rw [hsubE o' ho', ← f3] at hg'
    have := xlt (hH.objs o1 ho1) hg'
    have := hown0 g hg
    omega
  ·obtain ⟨_, _, _, _, _, _, g1, _⟩ := c2.sub o ho
   rw [g1] at hown; cases hown
 ·intro o ho g hg
  rcases List.mem_cons.1 ho with rfl | ho
  ·exact hshr g (hinn g hg)
  ·exact (hsubI o ho g hg).elim
 ·intro o ho g hg o' ho' hown hb
  rcases List.mem_cons.1 ho with rfl | ho
  ·rcases List.mem_cons.1 ho' with rfl | ho'
   ·have := hinlt g hg
    have := hown0 g hb
    omega
   ·obtain ⟨_, _, _, _, _, _, g1, _⟩ := c2.sub o' ho'
    rw [g1] at hown; cases hown
  ·exact hsubI o ho g hg
 ·intro o ho g hg
  rcases List.mem_cons.1 ho with rfl | ho
  ·rcases hg with ⟨h1, _⟩ | ⟨_, hg⟩
   ·cases h1
   ·rcases hinn g hg with h1 | ⟨o, ho, h2, h3, h4⟩
    ·exact .inr (.inl h1)
    ·exact .inr (.inr ⟨o, ho, .inl ⟨h3, h4⟩⟩)
  ·rcases hg with ⟨_, hg⟩ | ⟨h1, _⟩
   ·obtain ⟨_, _, _, _, _, h5, _⟩ := c2.sub o ho
    rw [hsubE o ho] at hg
    exact .inr (.inl ⟨_, h5, hg⟩)
   ·obtain ⟨_, _, _, _, _, _, g1, _⟩ := c2.sub o ho
    rw [g1] at h1; cases h1
theorem xr1 {p : Nat → Prop} : ∀ (ks : List NK) (j : Nat) (el : List Int), (slN ks j el = [] ∨ p K) → AV.allL p (nksA K ks j el)
 | [], _, _, _ => trivial
 | .c k :: r, j, el, h => ⟨by cases k <;> trivial, xr1 r (j + 1) el h⟩
 | .s e ks :: r, j, el, h => by
  rcases h with h | h
  ·cases h
  ·exact ⟨h, xr1 r (j + 1) el (.inr h)⟩
theorem xr0 : ∀ (ks : List NK) (j : Nat) (el : List Int) (us : List Value), us.length = ks.length → (∀ (i : Nat) (k : NK), ks[i]? = some k → ∃ u, us[i]? = some u ∧ xnj w k (el.getD (j + i) 0) u) →
  (slN ks j el = [] → ∀ E' : Env, AV.denL E' (nksA K ks j el) = us) ∧
  ∀ e ks' m, slN ks j el = [(e, ks', m)] → ∃ u ∈ us, xnj w (.s e ks') m u ∧ ∀ E' : Env, E' K = u → AV.denL E' (nksA K ks j el) = us
 | [], j, el, us, hl, _ => by
  have : us = [] := List.eq_nil_of_length_eq_zero hl
  subst this
  exact ⟨fun _ _ => rfl, fun _ _ _ h => by cases h⟩
 | .c k :: r, j, el, [], hl, _ => by simp at hl
 | .s e ks :: r, j, el, [], hl, _ => by simp at hl
 | .c k :: r, j, el, u :: us, hl, h => by
  obtain ⟨u', hu, hc⟩ := h 0 (.c k) rfl
  cases hu
  have hc : u = k.val (el.getD j 0) := hc
  obtain ⟨h1, h2⟩ := xr0 r (j + 1) el us (by simpa using hl) fun i k' hk => by
   obtain ⟨v, hv, hc⟩ := h (i + 1) k' hk
   exact ⟨v, hv, by rw [show j + 1 + i = j + (i + 1) from by omega]; exact hc⟩
  refine ⟨fun h3 E' => ?_, fun e ks' m h3 => ?_⟩
  ·simp only [nksA, AV.denL, xwp, h1 h3 E', hc]
  ·obtain ⟨x, hx, hcx, hd⟩ := h2 e ks' m h3
   refine ⟨x, List.mem_cons_of_mem _ hx, hcx, fun E' hE => ?_⟩
   simp only [nksA, AV.denL, xwp, hd E' hE, hc]
 | .s e ks :: r, j, el, u :: us, hl, h => by
  obtain ⟨u', hu, hc⟩ := h 0 (.s e ks) rfl
  cases hu
  obtain ⟨h1, h2⟩ := xr0 r (j + 1) el us (by simpa using hl) fun i k' hk => by
   obtain ⟨v, hv, hc⟩ := h (i + 1) k' hk
   exact ⟨v, hv, by rw [show j + 1 + i = j + (i + 1) from by omega]; exact hc⟩
  refine ⟨(fun h3 => by cases h3), fun e' ks' m h3 => ?_⟩
  simp only [slN, List.cons.injEq, Prod.mk.injEq] at h3
  obtain ⟨⟨rfl, rfl, rfl⟩, h4⟩ := h3
  refine ⟨u, List.mem_cons_self, hc, fun E' hE => ?_⟩
  simp only [nksA, AV.denL, AV.den, h1 h4 E', hE]
theorem xxd (hH : xag X E w0 ⟨objs, n⟩ w) {t : TypeId} {v : AV} {x : Eff} (h : xuV P objs K t v = some x) :
  xe7 n objs K x ∧ x.nk ≤ 1 ∧ (x.holds → ∃ E', (Instr.loadAt t (v.den E)).run P w = .ok (x.v.den E') w ∧ xhI E objs w K x E' w) := by
 unfold xuV at h
 split at h
 case h_2 => cases h
 rename_i key sz kn i off
 split at h
 case h_2 => cases h
 rename_i k0 ver own e ks l m hf hm
 obtain ⟨hmem, hk⟩ := xah hf
 have hk : k0 = key := hk
 subst hk
 split at h
 case isFalse => cases h
 rename_i hc
 obtain ⟨rfl, h0, hoff, hmp⟩ := hc
 obtain ⟨vs, hN⟩ := hH.objs _ hmem
 have hN : xjr w own e ks (E k0) l vs := hN
 generalize hpart : (ks.drop off).take m = part at h
 have hpl : part.length = m := by rw [← hpart]; simp; omega
 have cells : inR i l → ∃ us : List Value, us.length = part.length ∧ (∀ (j : Nat) (k : NK), part[j]? = some k → ∃ u, us[j]? = some u ∧ xnj w k ((l.getD i.toNat []).getD (off + j) 0) u) ∧
   (∀ u ∈ us, ∃ q : Nat, vs[q]? = some u) ∧ ∀ (E' : Env) (cs : List AV) (u : AV), AV.denL E' cs = us → xjk P t cs 0 = some u → (Instr.loadAt t ((AV.ix k0 ks.length kn i off).den E)).run P w = .ok (u.den E') w := by
  intro hp
  have hil : i.toNat < l.length := by have := hp.1; have := hp.2; omega
  have hbound : i.toNat * ks.length + off + m ≤ vs.length := by
   rw [hN.row.len]
   have : (i.toNat + 1) * ks.length ≤ l.length * ks.length := Nat.mul_le_mul_right _ hil
   rw [Nat.add_mul, Nat.one_mul] at this
   omega
  refine ⟨(vs.drop (i.toNat * ks.length + off)).take m, by simp; omega, fun j k hj => ?_, fun u hu => ?_, fun E' cs u hden hu => ?_⟩
  ·have hjm : j < m := by rw [← hpl]; exact (List.getElem?_eq_some_iff.1 hj).1
   rw [← hpart, List.getElem?_take, if_pos hjm, List.getElem?_drop] at hj
   obtain ⟨u, hu, hcell⟩ := hN.cell i.toNat (off + j) k hil hj
   exact ⟨u, by rw [List.getElem?_take, if_pos hjm, List.getElem?_drop, Nat.add_assoc]; exact hu, hcell⟩
  ·obtain ⟨q, hq⟩ := List.getElem?_of_mem hu
   rw [List.getElem?_take] at hq
   split at hq
   ·rw [List.getElem?_drop] at hq; exact ⟨_, hq⟩
   ·cases hq
  ·obtain ⟨u0, hu0⟩ : ∃ u0, vs[i.toNat * ks.length + off]? = some u0 := ⟨_, List.getElem?_eq_getElem (by omega)⟩
   obtain ⟨a, ha, _⟩ := hN.row.reads.cell _ u0 hu0
   have := xo6 (P := P) (t := t) (E := E') (w := w) (a0 := a.add (i.toNat * ks.length + off)) (off := 0) (cs := cs) (fun j u hj => by
    rw [hden, List.getElem?_take] at hj
    split at hj
    ·rw [List.getElem?_drop] at hj
     obtain ⟨a', ha', hc'⟩ := hN.row.reads.cell _ u hj
     rw [ha] at ha'
     cases ha'
     rw [xni]
     exact hc'
    ·cases hj) hu
   rw [xtU] at this
   simp only [AV.den, ha, Option.map_some, Instr.loadAt, Instr.sureAddr, Sem.run_bind, Sem.run_pure, Result.andThen_ok]
   exact this
 split at h
 ·-- no slice
  rename_i u hu hsl
  cases h
  refine ⟨xnz _ (xi5 hu (xr1 _ _ _ (.inl hsl))), Nat.zero_le _, fun hp => ?_⟩
  obtain ⟨us, h1, h2, _, h4⟩ := cells hp
  exact ⟨E, h4 E _ _ ((xr0 part off _ us h1 h2).1 hsl E) hu, xnA hH.env _ _⟩
 ·rename_i u e' ks' m' hu hsl
  cases h
  refine ⟨⟨by simp, ?_, ?_, ?_, xi5 hu (xr1 _ _ _ (.inr (.inr (Nat.lt_succ_self _)))), ?_⟩, Nat.le_refl _, fun hp => ?_⟩
  ·intro o ho; simp at ho; subst ho; exact .inr ⟨Nat.le_refl _, Nat.lt_succ_self _⟩
  ·intro o ho o' ho' _; simp at ho ho'; subst ho; subst ho'; rfl
  ·intro o ho; simp at ho; subst ho; cases own <;> trivial
  ·intro o ho; simp at ho; subst ho; exact Nat.le_refl _
  obtain ⟨us, h1, h2, h3, h4⟩ := cells hp
  obtain ⟨c, hcm, hcell, hd⟩ := (xr0 (K := K) part off _ us h1 h2).2 e' ks' m' hsl
  obtain ⟨q, hq⟩ := h3 c hcm
  have hinn : ∀ g, blkO c = some g → Inn E w k0 (.nst e ks l) g := fun g hg => hN.inn hq hg
  refine ⟨fun k => if k = K then c else E k, h4 _ _ _ (hd _ (if_pos rfl)) hu, fun k hk => if_neg (by simp at hk; omega), fun k => ?_, Chg.refl _ _, ?_, ?_, ?_, ?_, ?_, ?_, ?_⟩
  ·by_cases hk : k = K
   ·simp [hk, hcell.one]
   ·simp [hk, hH.env k]
  ·intro o ho; simp at ho; subst ho
   have hr : xbc w false e' ks'.length c (decL m').length (rowV ks' (decL m')) := hcell.2
   cases own with
   | true => exact ⟨rfl, by show xbc w false e' ks'.length (if K = K then c else E K) _ _; rw [if_pos rfl]; exact hr⟩
   | false => show xbc w false e' ks'.length (if K = K then c else E K) _ _; rw [if_pos rfl]; exact hr
  ·intro o ho hown; simp at ho; subst ho; cases hown
  ·intro o ho _ g hg; simp at ho; subst ho; simp at hg
   exact .inr (.inr (.inr ⟨_, hmem, hinn g hg⟩))
  ·intro o ho o' ho' hown; simp at ho; subst ho; cases hown
  ·intro o ho g hg; simp at ho; subst ho; cases own <;> exact hg.elim
  ·intro o ho g hg; simp at ho; subst ho; cases own <;> exact hg.elim
  ·intro o ho g hg; simp at ho; subst ho
   rcases hg with ⟨h5, hg⟩ | ⟨h5, _⟩
   ·cases own with
    | false => cases h5
    | true =>
     simp at hg
     exact .inr (.inr ⟨_, hmem, .inr ⟨rfl, hinn g hg⟩⟩)
   ·cases h5
 ·cases h
theorem xjr.append {own1 own2 own' : Bool} {e : TypeId} {ks : List NK} {v1 v2 v' : Value} {l1 l2 : List (List Int)} {vs ws : List Value} {w' : World} (h1 : xjr w own1 e ks v1 l1 vs) (h2 : xjr w own2 e ks v2 l2 ws)
  (hr : xbc w' own' e ks.length v' (l1.length + l2.length) (vs ++ ws)) (hm : ∀ u ∈ vs ++ ws, ∀ g, blkO u = some g → w'.heap[g]? = w.heap[g]?) (hs : w.heap.size ≤ w'.heap.size) : xjr w' own' e ks v' (l1 ++ l2) (vs ++ ws) := by
 refine ⟨by rw [List.length_append]; exact hr, fun i j k hi hj => ?_⟩
 have hjl : j < ks.length := (List.getElem?_eq_some_iff.1 hj).1
 by_cases hlt : i < l1.length
 ·obtain ⟨u, hu, hc⟩ := h1.cell i j k hlt hj
  have hlen : i * ks.length + j < vs.length := (List.getElem?_eq_some_iff.1 hu).1
  refine ⟨u, by rw [List.getElem?_append_left hlen]; exact hu, ?_⟩
  rw [show (l1 ++ l2).getD i [] = l1.getD i [] from by rw [List.getD_eq_getElem?_getD, List.getElem?_append_left hlt, ← List.getD_eq_getElem?_getD]]
  exact hc.move (hm u (List.mem_append.2 (.inl (List.mem_of_getElem? hu)))) hs
 ·have hge : l1.length ≤ i := Nat.le_of_not_lt hlt
  obtain ⟨u, hu, hc⟩ := h2.cell (i - l1.length) j k (by rw [List.length_append] at hi; omega) hj
  have hlen := h1.row.len
  have hmul : (i - l1.length) * ks.length = i * ks.length - l1.length * ks.length := Nat.sub_mul _ _ _
  have hle : l1.length * ks.length ≤ i * ks.length := Nat.mul_le_mul_right _ hge
  refine ⟨u, ?_, ?_⟩
  ·rw [List.getElem?_append_right (by omega), hlen, show i * ks.length + j - l1.length * ks.length = (i - l1.length) * ks.length + j from by omega]
   exact hu
  ·rw [show (l1 ++ l2).getD i [] = l2.getD (i - l1.length) [] from by rw [List.getD_eq_getElem?_getD, List.getElem?_append_right hge, ← List.getD_eq_getElem?_getD]]
   exact hc.move (hm u (List.mem_append.2 (.inr (List.mem_of_getElem? hu)))) hs
theorem xjr.empty {own : Bool} {e : TypeId} {ks : List NK} {v : Value} (hr : xbc w own e ks.length v 0 []) : xjr w own e ks v [] [] :=
 ⟨hr, fun i _ _ hi => by simp at hi⟩
theorem xqL (hH : xag X E w0 ⟨objs, n⟩ w) {rm : List Nat} {v v' : Value} {w' : World} {e : TypeId} {ks : List NK} {l : List (List Int)} {p : Option Prop} (hrm : (rm = [] ∧ blkO v = none) ∨ ∃ key, rm = [key] ∧ v = E key ∧ ∃ o ∈ objs, o.key = key ∧ o.own = true) (h1 : v'.oneCell' = true)
  {vs : List Value} (hb : xjr w' true e ks v' l vs) (hc : Chg w w' (blkO v).toList) (hblk : ∀ g, blkO v' = some g → w.heap.size ≤ g ∨ blkO v = some g)
  (hin : ∀ u ∈ vs, ∀ g, blkO u = some g → ∃ o ∈ objs, o.own = true ∧ Inn E w o.key o.body g) : xhI E objs w K ⟨p, rm, 1, [⟨K, K, true, .nst e ks l⟩], .sl K⟩ (fun k => if k = K then v' else E k) w' := by
 have hb' : xjr w' true e ks ((fun k => if k = K then v' else E k : Env) K) l vs := by simp only [if_true]; exact hb
 have hinn : ∀ g, Inn (fun k => if k = K then v' else E k) w' K (.nst e ks l) g → ∃ o ∈ objs, o.own = true ∧ Inn E w o.key o.body g := by
  intro g hg
  obtain ⟨j, u, hj, hbu⟩ := hb'.of_inn hg
  exact hin u (List.mem_of_getElem? hj) g hbu
 refine ⟨fun k hk => if_neg (by simp at hk; omega), fun k => ?_, ?_, ?_, ?_, ?_, ?_, ?_, ?_, ?_⟩
 ·by_cases hk : k = K
  ·simp [hk, h1]
  ·simp [hk, hH.env k]
 ·rcases hrm with ⟨rfl, h0⟩ | ⟨key, rfl, rfl, _⟩
  ·rw [h0] at hc; exact hc
  ·cases hg : blkO (E key) with
   | none => rw [hg] at hc; simpa [hg] using hc
   | some g => rw [hg] at hc; simpa [hg] using hc
 ·intro o ho; simp at ho; subst ho; exact ⟨vs, hb'⟩
 ·intro o ho _ g hg; simp at ho; subst ho; simp at hg
  rcases hblk g hg with h | h
  ·exact .inl h
  ·rcases hrm with ⟨rfl, h0⟩ | ⟨key, rfl, rfl, _⟩
   ·rw [h0] at h; cases h
   ·exact .inr ⟨key, by simp, h⟩
 ·intro o ho hf; simp at ho; subst ho; cases hf
 ·intro o ho o' ho' _ hne; simp at ho ho'; subst ho; subst ho'; exact absurd rfl hne
 ·intro o ho g hg; simp at ho; subst ho
  obtain ⟨o, ho, _, h⟩ := hinn g hg
  exact .inr (.inr (.inr ⟨o, ho, h⟩))
 ·intro o ho g hg o' ho' _ hb2; simp at ho ho'; subst ho; subst ho'; simp at hb2
  obtain ⟨o, ho, _, h⟩ := hinn g hg
  rcases hblk g hb2 with h2 | h2
  ·have := xod (hH.objs o ho) h; omega
  ·rcases hrm with ⟨_, h0⟩ | ⟨key, _, rfl, o2, ho2, rfl, hown2⟩
   ·rw [h0] at h2; cases h2
   ·exact hH.deep o ho g h o2 ho2 hown2 h2
 ·intro o ho g hg; simp at ho; subst ho
  rcases hg with ⟨h5, _⟩ | ⟨_, hg⟩
  ·cases h5
  ·obtain ⟨o, ho, hown, h⟩ := hinn g hg
   exact .inr (.inr ⟨o, ho, .inr ⟨hown, h⟩⟩)
theorem xqK {rm : List Nat} {e : TypeId} {ks : List NK} {l : List (List Int)} {p : Option Prop} (hrm : ∀ k ∈ rm, ∃ o ∈ objs, o.key = k ∧ o.own = true) : xe7 n objs K ⟨p, rm, 1, [⟨K, K, true, .nst e ks l⟩], .sl K⟩ := by
 refine ⟨hrm, ?_, ?_, ?_, Or.inr (Nat.lt_succ_self _), ?_⟩
 ·intro o ho; simp at ho; subst ho; exact .inr ⟨Nat.le_refl _, Nat.lt_succ_self _⟩
 ·intro o ho o' ho' _; simp at ho ho'; subst ho; subst ho'; rfl
 ·intro o ho; simp at ho; subst ho; trivial
 ·intro o ho; simp at ho; subst ho; exact Nat.le_refl _
theorem xuA (hH : xag X E w0 ⟨objs, n⟩ w) {t ty : TypeId} {s y : AV} {x : Eff} (h : xnC P objs K t s y = some x) :
  xe7 n objs K x ∧ x.nk = 1 ∧ (x.holds → ∃ E' w', (Builtin.append_ #[t, t] ty #[s.den E, y.den E]).run P w = .ok (x.v.den E') w' ∧ xhI E objs w K x E' w') := by
 unfold xnC at h
 split at h
 case h_2 => cases h
 rename_i key2
 split at h
 case h_2 => cases h
 rename_i k2 ver2 e2 ks2 l2 e hf2 ht
 obtain ⟨hm2, hk2⟩ := xah hf2
 have hk2 : k2 = key2 := hk2
 subst hk2
 split at h
 case h_2 => cases h
 rename_i ie hi
 split at h
 case isFalse => cases h
 rename_i hc
 obtain ⟨rfl, hsz, h0, hz⟩ := hc
 unfold xCH at hz
 obtain ⟨ws, hN2⟩ := hH.objs _ hm2
 have hN2 : xjr w true e2 ks2 (E k2) l2 ws := hN2
 cases hzz : ie.zero with
 | none => rw [hzz] at hz; cases hz
 | some z =>
 rw [hzz] at hz
 have hzs : z.cells.size = ie.size := Nat.eq_of_beq_eq_true hz
 have hws1 : ∀ u ∈ ws, u.oneCell' = true := by
  intro u hu
  obtain ⟨q, hq⟩ := List.getElem?_of_mem hu
  obtain ⟨_, _, _, hcell⟩ := hN2.get hq
  exact hcell.one
 have hin2 : ∀ u ∈ ws, ∀ g, blkO u = some g → ∃ o ∈ objs, o.own = true ∧ Inn E w o.key o.body g := by
  intro u hu g hg
  obtain ⟨q, hq⟩ := List.getElem?_of_mem hu
  exact ⟨_, hm2, rfl, hN2.inn hq hg⟩
 have core : ∀ {v : Value} {m : Nat} {vs : List Value} {l1 : List (List Int)}, xor w e2 ie.size v m vs → xjr w true e2 ks2 v l1 vs → m = l1.length → (∀ u ∈ vs, ∀ g, blkO u = some g → ∃ o ∈ objs, o.own = true ∧ Inn E w o.key o.body g) →
   (∀ g, blkO v = some g → ∃ o ∈ objs, o.own = true ∧ blkO (E o.key) = some g) → xcI ie.bytes (l1.length + l2.length) →
   ∃ v' w', (Builtin.append_ #[t, t] ty #[v, E k2]).run P w = .ok v' w' ∧ xjr w' true e2 ks2 v' (l1 ++ l2) (vs ++ ws) ∧ Chg w w' (blkO v).toList ∧ (∀ b, blkO v' = some b → w.heap.size ≤ b ∨ blkO v = some b) ∧ v'.oneCell' = true := by
  intro v m vs l1 ho hN1 hml hin1 hvb hfit
  subst hml
  have hlen1 := hN1.row.len
  have hlen2 := hN2.row.len
  rw [hsz] at hlen1 hlen2
  obtain ⟨v', w', hr, ho', hch, hbl, h1'⟩ := xvc (P := P) (ty := ty) ht hi hzz hzs h0 ho hlen1 hN2.row.reads hlen2 hws1 hfit
  refine ⟨v', w', hr, ?_, hch, hbl, h1'⟩
  refine hN1.append hN2 (by rw [hsz]; exact xfw ho' (by rw [List.length_append, hlen1, hlen2, Nat.add_mul])) (fun u hu g hg => ?_) hch.size
  obtain ⟨o, hom, hown, hI⟩ : ∃ o ∈ objs, o.own = true ∧ Inn E w o.key o.body g := by
   rcases List.mem_append.1 hu with hu | hu
   ·exact hin1 u hu g hg
   ·exact hin2 u hu g hg
  refine hch.block g (xod (hH.objs o hom) hI) fun hmem => ?_
  rw [Option.mem_toList] at hmem
  obtain ⟨o2, hom2, hown2, hb2⟩ := hvb g hmem
  exact hH.deep o hom g hI o2 hom2 hown2 hb2
 have nilN : xjr w true e2 ks2 (.slice none 0 0) [] [] := xjr.empty (xfw (.inl ⟨none, rfl, rfl⟩) (by simp))
 split at h
 ·-- nil
  cases h
  refine ⟨xqK (by simp), rfl, fun hp => ?_⟩
  have hp : xcI ie.bytes l2.length := hp
  obtain ⟨v', w', hr, hN, hch, hbl, h1⟩ := core (v := .slice none 0 0) (m := 0) (vs := []) (l1 := []) (.inl ⟨none, rfl, rfl⟩) nilN rfl (by simp) (fun g hg => by cases hg) (by simpa using hp)
  exact ⟨_, w', by simp only [AV.den, if_true]; exact hr, xqL hH (.inl ⟨rfl, rfl⟩) h1 (by simpa using hN) hch hbl (by simpa using hin2)⟩
 ·rename_i key
  split at h
  case isFalse => cases h
  rename_i hne
  split at h
  ·-- a nil object
   rename_i k1 ver1 hf1
   cases h
   obtain ⟨hm1, hk1⟩ := xah hf1
   have hk1 : k1 = key := hk1
   subst hk1
   have hnil : E k1 = .slice none 0 0 := hH.objs _ hm1
   refine ⟨xqK (fun k hk => by simp at hk; subst hk; exact ⟨_, hm1, rfl, rfl⟩), rfl, fun hp => ?_⟩
   have hp : xcI ie.bytes l2.length := hp
   obtain ⟨v', w', hr, hN, hch, hbl, h1⟩ := core (v := E k1) (m := 0) (vs := []) (l1 := []) (.inl ⟨none, hnil, rfl⟩) (by rw [hnil]; exact nilN) rfl (by simp) (fun g hg => by rw [hnil] at hg; cases hg) (by simpa using hp)
   exact ⟨_, w', by simp only [AV.den, if_true]; exact hr, xqL hH (.inr ⟨k1, rfl, rfl, _, hm1, rfl, rfl⟩) h1 (by simpa using hN) hch hbl (by simpa using hin2)⟩
  ·rename_i k1 ver1 e1 ks1 l1 hf1
   split at h
   case isFalse => cases h
   rename_i hc1
   obtain ⟨rfl, rfl⟩ := hc1
   cases h
   obtain ⟨hm1, hk1⟩ := xah hf1
   have hk1 : k1 = key := hk1
   subst hk1
   obtain ⟨vs, hN1⟩ := hH.objs _ hm1
   have hN1 : xjr w true e1 ks1 (E k1) l1 vs := hN1
   have hin1 : ∀ u ∈ vs, ∀ g, blkO u = some g → ∃ o ∈ objs, o.own = true ∧ Inn E w o.key o.body g := by
    intro u hu g hg
    obtain ⟨q, hq⟩ := List.getElem?_of_mem hu
    exact ⟨_, hm1, rfl, hN1.inn hq hg⟩
   refine ⟨xqK (fun k hk => by simp at hk; subst hk; exact ⟨_, hm1, rfl, rfl⟩), rfl, fun hp => ?_⟩
   have hp : xcI ie.bytes (l1.length + l2.length) := hp
   obtain ⟨v', w', hr, hN, hch, hbl, h1⟩ := core (v := E k1) (m := l1.length) (vs := vs) (l1 := l1) (by rw [← hsz]; exact hN1.row.own rfl) hN1 rfl hin1 (fun g hg => ⟨_, hm1, rfl, hg⟩) hp
   exact ⟨_, w', by simp only [AV.den, if_true]; exact hr, xqL hH (.inr ⟨k1, rfl, rfl, _, hm1, rfl, rfl⟩) h1 hN hch hbl (fun u hu g hg => by
    rcases List.mem_append.1 hu with hu | hu
    ·exact hin1 u hu g hg
    ·exact hin2 u hu g hg)⟩
  ·cases h
 ·cases h
end
end Go.Sy
