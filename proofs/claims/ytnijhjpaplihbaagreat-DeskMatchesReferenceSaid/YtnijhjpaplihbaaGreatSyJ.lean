/-
 The executor's operations are sound: the theorem for one operation (no call of a Go function).
-/
import Derived.Test.YtnijhjpaplihbaaGreatSyS
import Derived.Test.YtnijhjpaplihbaaGreatSyI2
import Derived.Test.YtnijhjpaplihbaaGreatSyNs
set_option linter.unusedVariables false
namespace Go.Sy
open Go.RowKit
section
variable {P : Program} {X : List (Nat × Go.Obj)} {E : Env} {w0 w : World} {objs : List Obj} {n K : Nat} {ρ : Operand → Option AV} {e : Operand → Value}
theorem xjY (hE : ∀ k, (E k).oneCell' = true) {rm : List Nat} {v v' : Value} {w' : World} {b : Body} {p : Option Prop} (hrm : (rm = [] ∧ blkO v = none) ∨ ∃ key, rm = [key] ∧ v = E key) (h1 : v'.oneCell' = true)
  (hb : xbi (fun k => if k = K then v' else E k) w' K true b) (hc : Chg w w' (blkO v).toList) (hblk : ∀ g, blkO v' = some g → w.heap.size ≤ g ∨ blkO v = some g) (hf : xv9 b = true := by rfl) : xhI E objs w K ⟨p, rm, 1, [⟨K, K, true, b⟩], .sl K⟩ (fun k => if k = K then v' else E k) w' := by
 refine ⟨fun k hk => if_neg (by simp at hk; omega), fun k => ?_, ?_, ?_, ?_, ?_, ?_, ?_, ?_, ?_⟩
 ·by_cases hk : k = K
  ·simp [hk, h1]
  ·simp [hk, hE k]
 ·rcases hrm with ⟨rfl, h0⟩ | ⟨key, rfl, rfl⟩
  ·rw [h0] at hc; exact hc
  ·cases hg : blkO (E key) with
   | none => rw [hg] at hc; simpa [hg] using hc
   | some g => rw [hg] at hc; simpa [hg] using hc
 ·intro o ho; simp at ho; subst ho; exact hb
 ·intro o ho _ g hg; simp at ho; subst ho; simp at hg
  rcases hblk g hg with h | h
  ·exact .inl h
  ·rcases hrm with ⟨rfl, h0⟩ | ⟨key, rfl, rfl⟩
   ·rw [h0] at h; cases h
   ·exact .inr ⟨key, by simp, h⟩
 ·intro o ho hf; simp at ho; subst ho; cases hf
 ·intro o ho o' ho' _ hne; simp at ho ho'; subst ho; subst ho'; exact absurd rfl hne
 ·intro o ho g hg; simp at ho; subst ho; exact xe9 hf hg
 ·intro o ho g hg; simp at ho; subst ho; exact xe9 hf hg
 ·intro o ho g hg; simp at ho; subst ho; exact xm1 hf hg
theorem xfr {rm : List Nat} {b : Body} {p : Option Prop} (hrm : ∀ k ∈ rm, ∃ o ∈ objs, o.key = k ∧ o.own = true) (hb : xbh (fun k => k < n) b) : xe7 n objs K ⟨p, rm, 1, [⟨K, K, true, b⟩], .sl K⟩ := by
 refine ⟨hrm, ?_, ?_, ?_, Or.inr (Nat.lt_succ_self _), ?_⟩
 ·intro o ho; simp at ho; subst ho; exact .inr ⟨Nat.le_refl _, Nat.lt_succ_self _⟩
 ·intro o ho o' ho' _; simp at ho ho'; subst ho; subst ho'; rfl
 ·intro o ho; simp at ho; subst ho; exact xa3 (fun k hk => .inl hk) hb
 ·intro o ho; simp at ho; subst ho; exact Nat.le_refl _
theorem xyM {els : List (List AV)} (hE : ∀ k, (E k).oneCell' = true) (h : els.flatten.all AV.scalar = true) : ∀ u ∈ AV.denL E els.flatten, u.oneCell' = true := by
 intro u hu
 rw [xax] at hu
 obtain ⟨c, hc, rfl⟩ := List.mem_map.1 hu
 exact xuI (List.all_eq_true.1 h c hc) hE
theorem xix (hH : xag X E w0 ⟨objs, n⟩ w) {t ty te : TypeId} {ie : TypeInfo} (ht : P.underlying t = some (.slice te)) (hi : P.info? te = some ie) {b2 : Body} (hok : xtR te ie b2 = true)
  {v v2 : Value} {own2 : Bool} {m m2 sz : Nat} {vs ws : List Value} {e1 e2 : TypeId} (hsz : sz = ie.size) (he1 : e1 = te) (ho : xor w e1 sz v m vs) (hl : vs.length = m * sz) (hs : xbc w own2 e2 sz v2 m2 ws) (h1 : ∀ u ∈ ws, u.oneCell' = true) (hf : xcI ie.bytes (m + m2)) :
  ∃ v' w', (Builtin.append_ #[t, t] ty #[v, v2]).run P w = .ok v' w' ∧ xbc w' true te sz v' (m + m2) (vs ++ ws) ∧ Chg w w' (blkO v).toList ∧ (∀ b, blkO v' = some b → w.heap.size ≤ b ∨ blkO v = some b) ∧ v'.oneCell' = true := by
 subst hsz; subst he1
 unfold xtR at hok
 rw [Bool.and_eq_true] at hok
 obtain ⟨h2, h3⟩ := hok
 cases hz : ie.zero with
 | none => rw [hz] at h2; cases h2
 | some z =>
  rw [hz] at h2
  have hzs : z.cells.size = ie.size := Nat.eq_of_beq_eq_true h2
  have h0 : ie.size ≠ 0 := by
   intro e0
   cases b2 <;> simp [e0] at h3
  obtain ⟨v', w', hr, ho', hc, hb, h1'⟩ := xvc (P := P) (ty := ty) ht hi hz hzs h0 ho hl hs.reads hs.len h1 hf
  exact ⟨v', w', hr, xfw ho' (by rw [List.length_append, hl, hs.len, Nat.add_mul]), hc, hb, h1'⟩
theorem xtQ {te e2 : TypeId} {ie : TypeInfo} {ks : List CK} {l : List (List Int)} (h : xtR te ie (.row e2 ks l) = true) : e2 = te ∧ ks.length = ie.size := by
 unfold xtR at h
 rw [Bool.and_eq_true] at h
 have h3 := h.2
 simp only [Bool.and_eq_true] at h3
 exact ⟨Nat.eq_of_beq_eq_true h3.1.1, Nat.eq_of_beq_eq_true h3.1.2⟩
theorem xp5 {te e2 : TypeId} {ie : TypeInfo} {sz : Nat} {els : List (List AV)} (h : xtR te ie (.arr e2 sz els) = true) : e2 = te ∧ sz = ie.size := by
 unfold xtR at h
 rw [Bool.and_eq_true] at h
 have h3 := h.2
 simp only [Bool.and_eq_true] at h3
 exact ⟨Nat.eq_of_beq_eq_true h3.1.1, Nat.eq_of_beq_eq_true h3.1.2⟩
theorem xyN {te e2 : TypeId} {ie : TypeInfo} {ks : List CK} {l : List (List Int)} {b : Body} (h : xtR te ie b = true) (hr : xe6 P b = some (e2, ks, l)) : e2 = te ∧ ks.length = ie.size := by
 cases b with
 | row => cases hr; exact xtQ h
 | sub => unfold xtR at h; rw [Bool.and_eq_true] at h; cases h.2
 | nst => cases hr
 | arr e' sz els =>
  obtain ⟨h1, h2⟩ := xp5 h
  simp only [xe6] at hr
  cases hk : xrP P 9 e' with
  | none => rw [hk] at hr; cases hr
  | some ks' =>
   rw [hk] at hr
   simp only [] at hr
   split at hr
   ·rename_i hl
    cases hc : xxC ks' els with
    | none => rw [hc] at hr; cases hr
    | some l' => rw [hc] at hr; cases hr; exact ⟨h1, by rw [hl, h2]⟩
   ·cases hr
 | cells => cases hr
 | nil => cases hr
 | mp => cases hr
 | fin => cases hr
 | loop => cases hr
def xDO (E : Env) (w : World) (own : Bool) (v : Value) : Body → Prop
 | .row e ks l => xbc w own e ks.length v l.length (rowV ks l)
 | .sub e ks l => xbc w own e ks.length v l.length (rowV ks l)
 | .arr e sz els => xbc w own e sz v els.length (AV.denL E els.flatten) ∧ (∀ el ∈ els, el.length = sz) ∧ els.flatten.all AV.scalar = true
 | _ => True
theorem xsj {b : Body} {e : TypeId} {ks : List CK} {l : List (List Int)} {own : Bool} {v : Value} (h : xe6 P b = some (e, ks, l)) (hb : xDO E w own v b) : xbc w own e ks.length v l.length (rowV ks l) := by
 cases b with
 | row => cases h; exact hb
 | sub => cases h; exact hb
 | nst => cases h
 | arr e' sz els =>
  simp only [xe6] at h
  cases hk : xrP P 9 e' with
  | none => rw [hk] at h; cases h
  | some ks' =>
   rw [hk] at h
   simp only [] at h
   split at h
   ·rename_i hl
    cases hc : xxC ks' els with
    | none => rw [hc] at h; cases h
    | some l' =>
     rw [hc] at h
     cases h
     obtain ⟨h1, h2⟩ := xp1 E hc
     have := hb.1
     rw [h1, ← h2, ← hl] at this
     exact this
   ·cases h
 | cells => cases h
 | nil => cases h
 | mp => cases h
 | fin => cases h
 | loop => cases h
theorem xws (hH : xag X E w0 ⟨objs, n⟩ w) (hfr : ∀ o ∈ objs, o.key ≠ K ∧ xbh (fun k => k ≠ K) o.body) {t ty te : TypeId} {ie : TypeInfo} (ht : P.underlying t = some (.slice te)) (hi : P.info? te = some ie) {s : AV} {x : Eff} {k2 : Nat} {own2 : Bool} {b2 : Body} {v2 : Value}
  (hb2 : xDO E w own2 v2 b2) (hlt2 : xbh (fun k => k < n) b2) (hfr2 : xbh (fun k => k ≠ K) b2) (hok : xtR te ie b2 = true) (h : xoN P K ie.bytes s (tgtA objs s) k2 b2 = some x) :
  xe7 n objs K x ∧ x.nk ≤ 1 ∧ (x.holds → ∃ E' w', (Builtin.append_ #[t, t] ty #[s.den E, v2]).run P w = .ok (x.v.den E') w' ∧ xhI E objs w K x E' w') := by
 have hEK : ∀ (u : Value) (l : List AV), AV.allL (fun k => k ≠ K) l → AV.denL (fun k => if k = K then u else E k) l = AV.denL E l := fun u l hl => xcC (fun k (hk : k ≠ K) => if_neg hk) l hl
 have newrow : ∀ {u : Value} {w' : World} {ks : List CK} {l : List (List Int)} {e1 : TypeId}, xbc w' true e1 ks.length u l.length (rowV ks l) → xbi (fun k => if k = K then u else E k) w' K true (.row e1 ks l) := by
  intro u w' ks l e1 hr
  show xbc w' true e1 ks.length (if K = K then u else E K) l.length (rowV ks l)
  rw [if_pos rfl]; exact hr
 have newarr : ∀ {u : Value} {w' : World} {sz : Nat} {els : List (List AV)} {e1 : TypeId}, xbc w' true e1 sz u els.length (AV.denL E els.flatten) → (∀ el ∈ els, el.length = sz) → els.flatten.all AV.scalar = true → AV.allL (fun k => k ≠ K) els.flatten → xbi (fun k => if k = K then u else E k) w' K true (.arr e1 sz els) := by
  intro u w' sz els e1 hr h1 h2 h3
  refine ⟨?_, h1, h2⟩
  rw [hEK _ _ h3]; simp only [if_true]; exact hr
 unfold xoN at h
 split at h
 ·-- nil object, arr
  rename_i key k0 ver e2 sz2 els2 hf
  by_cases hc : key ≠ k2 ∧ xcI ie.bytes els2.length
  case neg => rw [if_neg hc] at h; cases h
  rw [if_pos hc] at h
  cases h
  obtain ⟨hm, hk⟩ := xah hf
  have hk : k0 = key := hk
  subst hk
  have hnil : E k0 = .slice none 0 0 := hH.objs _ hm
  obtain ⟨rfl, hsz⟩ := xp5 hok
  obtain ⟨r1, r2, r3⟩ := hb2
  refine ⟨xfr (fun k hk => by simp at hk; subst hk; exact ⟨_, hm, rfl, rfl⟩) hlt2, Nat.le_refl _, fun _ => ?_⟩
  obtain ⟨v', w', hr, hro, hch, hbl, h1⟩ := xix hH (ty := ty) ht hi hok (v := E k0) (m := 0) (vs := []) hsz rfl (.inl ⟨none, hnil, rfl⟩) (by simp) r1 (xyM hH.env r3) (by simpa using hc.2)
  refine ⟨_, w', by simp only [AV.den, if_true]; exact hr, xjY hH.env (.inr ⟨k0, rfl, rfl⟩) h1 (newarr (by simpa using hro) r2 r3 hfr2) hch hbl⟩
 ·-- nil object, row
  rename_i key k0 ver e2 ks2 l2 hf
  by_cases hc : key ≠ k2
  case neg => rw [if_neg hc] at h; cases h
  rw [if_pos hc] at h
  cases h
  obtain ⟨hm, hk⟩ := xah hf
  have hk : k0 = key := hk
  subst hk
  have hnil : E k0 = .slice none 0 0 := hH.objs _ hm
  obtain ⟨rfl, hsz⟩ := xtQ hok
  refine ⟨xfr (fun k hk => by simp at hk; subst hk; exact ⟨_, hm, rfl, rfl⟩) xb0, Nat.le_refl _, fun hp => ?_⟩
  have hp : xcI ie.bytes l2.length := hp
  obtain ⟨v', w', hr, hro, hch, hbl, h1⟩ := xix hH (ty := ty) ht hi hok (v := E k0) (m := 0) (vs := []) hsz rfl (.inl ⟨none, hnil, rfl⟩) (by simp) hb2 (xo7 _ _) (by simpa using hp)
  refine ⟨_, w', by simp only [AV.den, if_true]; exact hr, xjY hH.env (.inr ⟨k0, rfl, rfl⟩) h1 (newrow (by simpa using hro)) hch hbl⟩
 ·-- nil, arr
  rename_i e2 sz2 els2
  by_cases hc : xcI ie.bytes els2.length
  case neg => rw [if_neg hc] at h; cases h
  rw [if_pos hc] at h
  cases h
  obtain ⟨rfl, hsz⟩ := xp5 hok
  obtain ⟨r1, r2, r3⟩ := hb2
  refine ⟨xfr (by simp) hlt2, Nat.le_refl _, fun _ => ?_⟩
  obtain ⟨v', w', hr, hro, hch, hbl, h1⟩ := xix hH (ty := ty) ht hi hok (v := .slice none 0 0) (m := 0) (vs := []) hsz rfl (.inl ⟨none, rfl, rfl⟩) (by simp) r1 (xyM hH.env r3) (by simpa using hc)
  refine ⟨_, w', by simp only [AV.den, if_true]; exact hr, xjY hH.env (.inl ⟨rfl, rfl⟩) h1 (newarr (by simpa using hro) r2 r3 hfr2) hch hbl⟩
 ·-- nil, row
  rename_i e2 ks2 l2
  cases h
  obtain ⟨rfl, hsz⟩ := xtQ hok
  refine ⟨xfr (by simp) xb0, Nat.le_refl _, fun hp => ?_⟩
  have hp : xcI ie.bytes l2.length := hp
  obtain ⟨v', w', hr, hro, hch, hbl, h1⟩ := xix hH (ty := ty) ht hi hok (v := .slice none 0 0) (m := 0) (vs := []) hsz rfl (.inl ⟨none, rfl, rfl⟩) (by simp) hb2 (xo7 _ _) (by simpa using hp)
  refine ⟨_, w', by simp only [AV.den, if_true]; exact hr, xjY hH.env (.inl ⟨rfl, rfl⟩) h1 (newrow (by simpa using hro)) hch hbl⟩
 ·-- arr, arr
  rename_i key k0 ver e1 sz1 els1 e2 sz2 els2 hf
  by_cases hc : key ≠ k2 ∧ e1 = e2 ∧ sz1 = sz2 ∧ xcI ie.bytes (els1.length + els2.length)
  case neg => rw [if_neg hc] at h; cases h
  rw [if_pos hc] at h
  cases h
  obtain ⟨_, rfl, rfl, hfit⟩ := hc
  obtain ⟨hm, hk⟩ := xah hf
  have hk : k0 = key := hk
  subst hk
  obtain ⟨q1, q2, q3⟩ := hH.objs _ hm
  have hfr1 := hfr _ hm
  have hlt1 := (hH.lt _ hm).2
  obtain ⟨rfl, hsz⟩ := xp5 hok
  obtain ⟨r1, r2, r3⟩ := hb2
  have hall : ∀ {p : Nat → Prop}, AV.allL p els1.flatten → AV.allL p els2.flatten → AV.allL p (els1 ++ els2).flatten := by
   intro p h1 h2
   rw [List.flatten_append, xfQ] at *
   intro a ha
   rcases List.mem_append.1 ha with ha | ha
   ·exact h1 a ha
   ·exact h2 a ha
  refine ⟨xfr (fun k hk => by simp at hk; subst hk; exact ⟨_, hm, rfl, rfl⟩) (hall hlt1 hlt2), Nat.le_refl _, fun _ => ?_⟩
  obtain ⟨v', w', hr, hro, hch, hbl, h1⟩ := xix hH (ty := ty) ht hi hok hsz rfl (q1.own rfl) q1.len r1 (xyM hH.env r3) hfit
  refine ⟨_, w', by simp only [AV.den, if_true]; exact hr, xjY hH.env (.inr ⟨k0, rfl, rfl⟩) h1 (newarr ?_ ?_ ?_ (hall hfr1.2 hfr2)) hch hbl⟩
  ·rw [List.length_append, List.flatten_append, xax, List.map_append, ← xax, ← xax]
   exact hro
  ·intro el hel
   rcases List.mem_append.1 hel with hel | hel
   ·exact q2 el hel
   ·exact r2 el hel
  ·rw [List.flatten_append, List.all_append, q3, r3]; rfl
 ·-- rows
  rename_i key k0 ver b1 _ _ _ hf
  split at h
  ·rename_i e1 ks1 l1 e2 ks2 l2 hr1 hr2
   by_cases hc : key ≠ k2 ∧ e1 = e2 ∧ ks1 = ks2
   case neg => rw [if_neg hc] at h; cases h
   rw [if_pos hc] at h
   cases h
   obtain ⟨_, rfl, rfl⟩ := hc
   obtain ⟨hm, hk⟩ := xah hf
   have hk : k0 = key := hk
   subst hk
   have q := xbT hr1 (hH.objs _ hm)
   have r := xsj hr2 hb2
   obtain ⟨rfl, hsz⟩ := xyN hok hr2
   refine ⟨xfr (fun k hk => by simp at hk; subst hk; exact ⟨_, hm, rfl, rfl⟩) xb0, Nat.le_refl _, fun hp => ?_⟩
   have hp : xcI ie.bytes (l1.length + l2.length) := hp
   obtain ⟨v', w', hr, hro, hch, hbl, h1⟩ := xix hH (ty := ty) ht hi hok hsz rfl (q.own rfl) q.len r (xo7 _ _) hp
   refine ⟨_, w', by simp only [AV.den, if_true]; exact hr, xjY hH.env (.inr ⟨k0, rfl, rfl⟩) h1 (newrow ?_) hch hbl⟩
   rw [List.length_append, xoz]
   exact hro
  ·cases h
 ·cases h
theorem xxK (hH : xag X E w0 ⟨objs, n⟩ w) (hfr : ∀ o ∈ objs, o.key ≠ K ∧ xbh (fun k => k ≠ K) o.body) {bytes : Nat} {s : AV} {x : Eff} {k2 : Nat} {b2 : Body}
  (hlt2 : xbh (fun k => k < n) b2) (h : xoN P K bytes s (tgtA objs s) k2 b2 = some x) : xe7 n objs K x ∧ x.nk ≤ 1 := by
 have own1 : ∀ {key k0 ver : Nat} {b : Body}, xai key objs = some ⟨k0, ver, true, b⟩ → ∀ k ∈ [key], ∃ o ∈ objs, o.key = k ∧ o.own = true := by
  intro key k0 ver b hf k hk
  simp at hk; subst hk
  obtain ⟨hm, hk⟩ := xah hf
  exact ⟨_, hm, hk, rfl⟩
 unfold xoN at h
 split at h
 ·rename_i hf
  split at h
  ·cases h; exact ⟨xfr (own1 hf) hlt2, Nat.le_refl _⟩
  ·cases h
 ·rename_i hf
  split at h
  ·cases h; exact ⟨xfr (own1 hf) xb0, Nat.le_refl _⟩
  ·cases h
 ·split at h
  ·cases h; exact ⟨xfr (by simp) hlt2, Nat.le_refl _⟩
  ·cases h
 ·cases h; exact ⟨xfr (by simp) xb0, Nat.le_refl _⟩
 ·rename_i key k0 ver e1 sz1 els1 e2 sz2 els2 hf
  split at h
  ·cases h
   obtain ⟨hm, hk⟩ := xah hf
   have hlt1 := (hH.lt _ hm).2
   refine ⟨xfr (own1 hf) ?_, Nat.le_refl _⟩
   show AV.allL _ (els1 ++ els2).flatten
   have h1 : AV.allL (fun k => k < n) els1.flatten := hlt1
   have h2 : AV.allL (fun k => k < n) els2.flatten := hlt2
   rw [List.flatten_append, xfQ] at *
   intro a ha
   rcases List.mem_append.1 ha with ha | ha
   ·exact h1 a ha
   ·exact h2 a ha
  ·cases h
 ·rename_i hf
  split at h
  ·split at h
   ·cases h; exact ⟨xfr (own1 hf) xb0, Nat.le_refl _⟩
   ·cases h
  ·cases h
 ·cases h
theorem xqc (hH : xag X E w0 ⟨objs, n⟩ w) {y : AV} {k2 : Nat} {b2 : Body} {p : Option Prop} (h : srcA P objs y = some (k2, b2, p)) :
  ∃ o ∈ objs, o.key = k2 ∧ (b2 = o.body ∨ ∃ e ks l, b2 = .row e ks l) ∧ (xpB p → xDO E w false (y.den E) b2) := by
 have weaken : ∀ {own : Bool} {e : TypeId} {sz : Nat} {v : Value} {m : Nat} {vs : List Value}, xbc w own e sz v m vs → xbc w false e sz v m vs := fun h => ⟨h.reads, h.len, fun h => by cases h⟩
 cases y with
 | sl key =>
  simp only [srcA] at h
  split at h
  ·rename_i o hf
   cases h
   obtain ⟨hm, hk⟩ := xah hf
   subst hk
   refine ⟨o, hm, rfl, ?_, fun _ => ?_⟩
   ·cases hb : o.body <;> first | exact .inl rfl | exact .inr ⟨_, _, _, rfl⟩
   have := hH.objs _ hm
   simp only [AV.den]
   revert this
   generalize o.body = b
   intro this
   cases b with
   | row => exact weaken this
   | sub => exact weaken this.2
   | arr => exact ⟨weaken this.1, this.2⟩
   | _ => trivial
  ·cases h
 | vw key sz lo hi =>
  simp only [srcA] at h
  split at h
  ·rename_i o hf
   split at h
   ·rename_i e ks l hr
    split at h
    ·rename_i hks
     cases h
     obtain ⟨hm, hk⟩ := xah hf
     subst hk
     refine ⟨o, hm, rfl, .inr ⟨_, _, _, rfl⟩, fun hp => ?_⟩
     have := xB9 (xbT hr (hH.objs _ hm)) (lo := lo) (hi := hi) hp
     rw [hks] at this
     show xbc w false e ks.length _ _ _
     rw [hks]
     exact this
    ·cases h
   ·cases h
  ·cases h
 | _ => cases h
theorem xtO (hH : xag X E w0 ⟨objs, n⟩ w) (hfr : ∀ o ∈ objs, o.key ≠ K ∧ xbh (fun k => k ≠ K) o.body) {t ty : TypeId} {s y : AV} {x : Eff} (h : xi4 P objs K t s y = some x) :
  xe7 n objs K x ∧ x.nk ≤ 1 ∧ (x.holds → ∃ E' w', (Builtin.append_ #[t, t] ty #[s.den E, y.den E]).run P w = .ok (x.v.den E') w' ∧ xhI E objs w K x E' w') := by
 unfold xi4 at h
 split at h
 case h_2 => cases h
 rename_i key2 b2 p hsrc
 split at h
 case h_2 => cases h
 rename_i te ht
 cases hi : P.info? te with
 | none => rw [hi] at h; cases h
 | some ie =>
 rw [hi] at h
 simp only [] at h
 by_cases hok : xtR te ie b2 = true
 case neg => rw [if_neg hok] at h; cases h
 rw [if_pos hok] at h
 obtain ⟨o2, hm2, rfl, hbody, hso⟩ := xqc hH hsrc
 have hlt2 : xbh (fun k => k < n) b2 := by
  rcases hbody with rfl | ⟨_, _, _, rfl⟩
  ·exact (hH.lt _ hm2).2
  ·exact xb0
 have hfr2 : xbh (fun k => k ≠ K) b2 := by
  rcases hbody with rfl | ⟨_, _, _, rfl⟩
  ·exact (hfr _ hm2).2
  ·exact xb0
 obtain ⟨z, hz, rfl⟩ := Option.map_eq_some_iff.1 h
 have wf : xe7 n objs K z → xe7 n objs K { z with p := xuz p z.p } := fun h => ⟨h.rm, h.key, h.uniq, h.all, h.val, h.ver⟩
 have ok : ∀ {E' : Env} {w' : World}, xhI E objs w K z E' w' → xhI E objs w K { z with p := xuz p z.p } E' w' := fun h => ⟨h.agree, h.env, h.chg, h.bodies, h.own, h.ro, h.inj, h.dp, h.dq, h.df⟩
 have split_ : ({ z with p := xuz p z.p } : Eff).holds → xpB p ∧ z.holds := by
  intro h
  obtain ⟨zp, _, _, _, _⟩ := z
  cases p with
  | none => exact ⟨trivial, h⟩
  | some p => cases zp with
   | none => exact ⟨h, trivial⟩
   | some q => exact h
 by_cases hp : xpB p
 ·obtain ⟨a1, a2, a3⟩ := xws (ty := ty) hH hfr ht hi (hso hp) hlt2 hfr2 hok hz
  refine ⟨wf a1, a2, fun hh => ?_⟩
  obtain ⟨E', w', r1, r2⟩ := a3 (split_ hh).2
  exact ⟨E', w', r1, ok r2⟩
 ·-- the form alone
  obtain ⟨f1, f2⟩ := xxK hH hfr hlt2 hz
  exact ⟨wf f1, f2, fun hh => absurd (split_ hh).1 hp⟩
theorem xqN {p q : Option Prop} (h : xpB (xuz p q)) : xpB p ∧ xpB q := by
 cases p with
 | none => exact ⟨trivial, h⟩
 | some p => cases q with
  | none => exact ⟨h, trivial⟩
  | some q => exact h
theorem xtM (hH : xag X E w0 ⟨objs, n⟩ w) {t ty : TypeId} {s y : AV} {x : Eff} (hs : AV.all (fun k => k < n) s) (h : xlu P objs K t s y = some x) :
  xe7 n objs K x ∧ x.nk = 0 ∧ (x.holds → ∃ w', (Builtin.append_ #[t, t] ty #[s.den E, y.den E]).run P w = .ok (x.v.den E) w' ∧ xhI E objs w K x E w') := by
 obtain ⟨key, sz, lo, hi, rfl⟩ : ∃ key sz lo hi, s = .vw key sz lo hi := by cases s <;> first | exact ⟨_, _, _, _, rfl⟩ | cases h
 unfold xlu at h
 simp only [] at h
 split at h
 case h_2 => cases h
 rename_i k2 b2 p hsrc
 split at h
 case h_2 => cases h
 rename_i e2 ks2 l2 k0 ver b te hr2 hf ht
 split at h
 case h_2 => cases h
 rename_i e ks l ie hr hi'
 split at h
 case isFalse => cases h
 rename_i hc
 cases h
 obtain ⟨rfl, rfl, rfl, rfl, hsz, hne0⟩ := hc
 obtain ⟨hm, hk⟩ := xah hf
 have hk : k0 = key := hk
 subst hk
 have hrow : xbc w true e2 ks2.length (E k0) l.length (rowV ks2 l) := xbT hr (hH.objs _ hm)
 obtain ⟨o2, hm2, rfl, hbody, hso⟩ := xqc hH hsrc
 refine ⟨xm6 ⟨_, hm, rfl, rfl⟩ xb0 hs, rfl, fun hp => ?_⟩
 obtain ⟨hp1, hp2⟩ := xqN (p := p) (q := some _) hp
 obtain ⟨⟨c1, c2⟩, c3⟩ : xAa l lo hi ∧ hi.toNat + l2.length ≤ l.length := hp2
 have src := xsj hr2 (hso hp1)
 obtain ⟨a2, cap2, hv2, _, _⟩ := src.reads.is
 have hspl : xjc l hi.toNat l2 = l.take hi.toNat ++ l2 ++ l.drop (hi.toNat + l2.length) := rfl
 by_cases hm0 : l2.length = 0
 ·have hl2 : l2 = [] := List.eq_nil_of_length_eq_zero hm0
  subst hl2
  have hs0 : xjc l hi.toNat [] = l := by simp [xjc]
  rw [hs0] at hspl
  refine ⟨w, ?_, xlp hH.env (by rw [← hspl]; exact hrow) ⟨0, .inr (Chg.refl _ _)⟩⟩
  obtain ⟨a, c, hv, hmc, _⟩ := hrow.reads.is
  have hle : hi.toNat - loN lo ≤ c - loN lo := by omega
  rw [hv2]
  simp only [AV.den, xgJ, hv, sliced, List.length_nil, Nat.add_zero, Int.toNat_natCast]
  generalize (if c = loN lo then a else a.map fun x => x.add (loN lo * ks2.length)) = a'
  cases a' with
  | none => cases a2 <;> simp [Builtin.append_, run_underlying ht, sizeOf, typeInfo, hi', Builtin.lenOf, Builtin.firstCells, loadCells, loadCellsFrom, hle]
  | some a' => cases a2 <;> simp [Builtin.append_, run_underlying ht, sizeOf, typeInfo, hi', Builtin.lenOf, Builtin.firstCells, loadCells, loadCellsFrom, storeCells, hle]
 ·rcases hrow.own rfl with ⟨a', ha, hn⟩ | ⟨g, cap, cur, hE', hg, hcap, hmax, hcs, htk⟩
  ·omega
  ·have hne : ¬ cap = loN lo := by omega
   have hcap0 : cap ≠ 0 := by omega
   have hrl : (rowV ks2 l2).length = l2.length * ks2.length := xbn _ _
   obtain ⟨u0, hu0⟩ : ∃ u0, (rowV ks2 l2)[0]? = some u0 := ⟨_, List.getElem?_eq_getElem (by rw [hrl]; exact Nat.mul_pos (by omega) (by omega))⟩
   obtain ⟨ad, had, _⟩ := src.reads.cell 0 u0 hu0
   rw [hv2] at had
   have had : a2 = some ad := had
   subst had
   have hnews : ∀ j u, (rowV ks2 l2)[j]? = some u → w.cell? (ad.add j) = some u := by
    intro j u hj
    obtain ⟨a', ha', hcl⟩ := src.reads.cell j u hj
    rw [hv2] at ha'
    cases ha'
    exact hcl
   have hfc := run_firstCells_some (P := P) w ks2.length l2.length ad l2.length cap2 (rowV ks2 l2) hrl hnews
   have hfit : hi.toNat * ks2.length + (rowV ks2 l2).length ≤ cur.size := by
    rw [hrl, ← Nat.add_mul, hcs]
    exact Nat.mul_le_mul_right _ (by omega)
   have hst := run_storeCells_at P g (hi.toNat * ks2.length) e2 (rowV ks2 l2) 0 cur w hg (by simpa using hfit) (xo7 _ _)
   simp only [Nat.add_zero] at hst
   have hown := xuO (w := w) hE' hg hcap hmax hcs htk (lo := hi.toNat) (m := l2) c3
   refine ⟨_, ?_, xlp hH.env (by rw [← hspl]; exact hown) ⟨g, .inl ⟨by rw [hE']; simp [blkO, hcap0], xjE _ _ _⟩⟩⟩
   have hroom : hi.toNat - loN lo + l2.length ≤ cap - loN lo := by omega
   have hadd : loN lo * ks2.length + (hi.toNat - loN lo) * ks2.length = hi.toNat * ks2.length := by rw [← Nat.add_mul]; congr 1; omega
   have hlen : hi.toNat - loN lo + l2.length = hi.toNat + l2.length - loN lo := by omega
   rw [hv2]
   simp only [AV.den, xgJ, hE', sliced, if_neg hne, Option.map_some, xiG, Nat.zero_add, Int.toNat_natCast]
   have hst' : (storeCells ((⟨g, loN lo * ks2.length, none⟩ : Addr).add ((hi.toNat - loN lo) * ks2.length)) (rowV ks2 l2)).run P w = .ok () (w.setRow g (cur.toList.take (hi.toNat * ks2.length) ++ rowV ks2 l2 ++ cur.toList.drop (hi.toNat * ks2.length + (rowV ks2 l2).length)).toArray) := by rw [xiG, hadd]; exact hst
   have hroom2 : hi.toNat + l2.length - loN lo ≤ cap - loN lo := by omega
   simp [Builtin.append_, run_underlying ht, sizeOf, typeInfo, hi', Builtin.lenOf, hsz, hroom2, hfc, hst', hlen]
theorem xvx (hH : xag X E w0 ⟨objs, n⟩ w) (hfr : ∀ o ∈ objs, o.key ≠ K) {v : AV} {x : Eff} (h : xvy P objs K v = some x) :
  xe7 n objs K x ∧ x.nk = 1 ∧ (x.holds → ∃ E', xhI E objs w K x E' w ∧ x.v.den E' = v.den E) := by
 unfold xvy at h
 split at h
 case h_2 => cases h
 rename_i key sz hi
 split at h
 case h_2 => cases h
 rename_i k0 ver b hf
 split at h
 case h_2 => cases h
 rename_i e ks l hr
 split at h
 case isFalse => cases h
 rename_i hsz
 cases h
 subst hsz
 obtain ⟨hm, hk⟩ := xah hf
 have hk : k0 = key := hk
 subst hk
 have hrow : xbc w true e ks.length (E k0) l.length (rowV ks l) := xbT hr (hH.objs _ hm)
 refine ⟨xfr (fun k hk => by simp at hk; subst hk; exact ⟨_, hm, rfl, rfl⟩) xb0, rfl, fun hp => ?_⟩
 obtain ⟨h1, h2⟩ : 0 ≤ hi ∧ hi ≤ (l.length : Int) := hp
 let v' : Value := xgJ (E k0) ks.length 0 hi.toNat
 have h3 : hi.toNat ≤ l.length := by omega
 have htl : (l.take hi.toNat).length = hi.toNat := by simp; omega
 have hown : xor w e ks.length v' hi.toNat (rowV ks (l.take hi.toNat)) ∧ ∀ g, blkO v' = some g → blkO (E k0) = some g := by
  rcases hrow.own rfl with ⟨a, ha, hn⟩ | ⟨g, cap, cur, hE', hg, hcap, hmax, hcs, htk⟩
  ·have h0 : hi.toNat = 0 := by omega
   refine ⟨.inl ⟨a, ?_, h0⟩, ?_⟩
   ·simp [v', xgJ, ha, sliced, h0]
   ·intro g hg
    simp [v', xgJ, ha, sliced, h0] at hg
    cases a <;> simp [blkO] at hg
  ·have hv' : v' = .slice (some ⟨g, 0, none⟩) hi.toNat cap := by
    simp only [v', xgJ, hE', sliced, Nat.sub_zero, Nat.zero_mul, Option.map_some, xtU]
    split <;> rfl
   rw [hv', hE']
   refine ⟨.inr ⟨g, cap, cur, rfl, hg, by omega, hmax, hcs, ?_⟩, fun _ h => h⟩
   rw [xsr, ← htk, List.take_take, Nat.min_eq_left (Nat.mul_le_mul_right _ h3)]
 have hro := xfw hown.1 (by rw [xbn, htl])
 refine ⟨fun k => if k = K then v' else E k, xjY hH.env (.inr ⟨k0, rfl, rfl⟩) (xqu (hH.env _) _ _ _) ?_ (Chg.refl _ _) (fun g hg => .inr (hown.2 g hg)), ?_⟩
 ·show xbc w true e ks.length (if K = K then v' else E K) (l.take hi.toNat).length (rowV ks (l.take hi.toNat))
  rw [if_pos rfl, htl]; exact hro
 ·simp only [AV.den, if_true]; rfl
theorem xdE (hH : xag X E w0 ⟨objs, n⟩ w) {o : Oper} {p : Option Prop} {v : AV} (hv : AV.all (fun k => k < n) v) (hr : (⟨p, [], 0, [], v⟩ : Eff).holds → (execOp e o).run P w = .ok (.value (v.den E)) w) :
  xe7 n objs K ⟨p, [], 0, [], v⟩ ∧ OpOk P E objs w K e o ⟨p, [], 0, [], v⟩ ∧ (⟨p, [], 0, [], v⟩ : Eff).nk ≤ 1 :=
 ⟨xnz p (xgk (fun k hk => .inl hk) v hv), fun hp => ⟨E, w, _, hr hp, .inl rfl, xnA hH.env p v⟩, Nat.zero_le _⟩
theorem xyq (hH : xag X E w0 ⟨objs, n⟩ w) (op : BinOp) (k : IntKind) (a b : Int) (t yt : TypeId) (x y : Operand) (o : Oper) (ho : o.op = .binOp op t x y yt) (hx : e x = .int k a) (hy : e y = .int k b) {z : Eff} (h : xDz op k a b = some z) :
  xe7 n objs K z ∧ OpOk P E objs w K e o z ∧ z.nk ≤ 1 := by
 cases op <;> simp only [xDz, okE, chkE] at h <;> cases h <;> refine xdE hH trivial (fun hp => ?_) <;> first
  | (simp [execOp, ho, hx, hy, eqGuard, binOp, Op.intArith, Op.intCmp, AV.den]; done)
  | (have hb : b ≠ 0 := hp; simp [execOp, ho, hx, hy, eqGuard, binOp, Op.intDiv, AV.den, hb]; done)
  | (have hb : 0 ≤ b := hp; simp [execOp, ho, hx, hy, eqGuard, binOp, Op.shift, AV.den, Int.not_lt.2 hb]; done)
theorem xrS (hH : xag X E w0 ⟨objs, n⟩ w) {d : Nat} {v : AV} {z : Eff} (hv : AV.all (fun k => k < n) v) (h : xjC P objs d v = some z) :
  ∃ p u, z = ⟨p, [], 0, [], u⟩ ∧ AV.all (fun k => k < n) u ∧ (z.holds → ∃ a, v.den E = .pointer (some a) ∧ u.den E = .pointer (some (a.add d))) := by
 have key : ∀ {key : Nat} {own : Bool} {te : TypeId} {sz' m : Nat} {vs : List Value} {sz : Nat} {kn : Bool} {i : Int} {off : Nat}, xbc w own te sz' (E key) m vs → 0 < vs.length →
   ∃ a, (AV.ix key sz kn i off).den E = .pointer (some a) ∧ (AV.ix key sz kn i (off + d)).den E = .pointer (some (a.add d)) := by
  intro key own te sz' m vs sz kn i off hr hpos
  obtain ⟨a, ha, _⟩ := hr.reads.cell 0 vs[0] (List.getElem?_eq_getElem hpos)
  exact ⟨a.add (i.toNat * sz + off), by simp only [AV.den, ha, Option.map_some], by simp only [AV.den, ha, Option.map_some, xni, Nat.add_assoc]⟩
 unfold xjC at h
 split at h
 ·rename_i key off
  cases h
  exact ⟨_, _, rfl, hv, fun _ => ⟨_, rfl, by simp [AV.den, xiG]⟩⟩
 ·rename_i key sz kn i off
  cases hf : xai key objs with
  | none => rw [hf] at h; cases h
  | some o =>
  rw [hf] at h
  simp only [] at h
  obtain ⟨hm, hk⟩ := xah hf
  subst hk
  have hb := hH.objs _ hm
  obtain ⟨k0, ver, own, b⟩ := o
  simp only [] at h hb hv
  cases b with
  | arr e sz' els =>
   obtain ⟨h1, h2, h3⟩ := hb
   cases kn with
   | true =>
    simp only [] at h
    split at h
    ·rename_i hc
     cases h
     exact ⟨_, _, rfl, hv, fun _ => key h1 (by rw [h1.len]; exact Nat.mul_pos (by omega) (by omega))⟩
    ·cases h
   | false =>
    simp only [] at h
    split at h
    ·rename_i e2 ks l hr
     split at h
     ·rename_i hks
      cases h
      refine ⟨_, _, rfl, hv, fun hp => ?_⟩
      have hp : inR i l := hp
      have hrow := xbT (E := E) (w := w) (key := k0) (own := own) hr ⟨h1, h2, h3⟩
      have : 0 < ks.length := List.length_pos_iff.2 hks
      exact key hrow (by rw [hrow.len]; exact Nat.mul_pos (by have := hp.1; have := hp.2; omega) this)
     ·cases h
    ·cases h
  | row e ks l =>
   simp only [] at h
   split at h
   ·rename_i hks
    cases h
    refine ⟨_, _, rfl, hv, fun hp => ?_⟩
    have hp : inR i l := hp
    have hrow : xbc w own e ks.length (E k0) l.length (rowV ks l) := hb
    have : 0 < ks.length := List.length_pos_iff.2 hks
    exact key hrow (by rw [hrow.len]; exact Nat.mul_pos (by have := hp.1; have := hp.2; omega) this)
   ·cases h
  | sub e ks l =>
   simp only [] at h
   split at h
   ·rename_i hks
    cases h
    refine ⟨_, _, rfl, hv, fun hp => ?_⟩
    have hp : inR i l := hp
    have hrow : xbc w own e ks.length (E k0) l.length (rowV ks l) := hb.2
    have : 0 < ks.length := List.length_pos_iff.2 hks
    exact key hrow (by rw [hrow.len]; exact Nat.mul_pos (by have := hp.1; have := hp.2; omega) this)
   ·cases h
  | nst e ks l =>
   simp only [] at h
   split at h
   ·rename_i hks
    cases h
    refine ⟨_, _, rfl, hv, fun hp => ?_⟩
    have hp : inR i l := hp
    obtain ⟨vs, hb⟩ := hb
    have hrow := hb.row
    have : 0 < ks.length := List.length_pos_iff.2 hks
    exact key hrow (by rw [hrow.len]; exact Nat.mul_pos (by have := hp.1; have := hp.2; omega) this)
   ·cases h
  | cells => cases h
  | nil => cases h
  | mp => cases h
  | fin => cases h
  | loop => cases h
 ·cases h
theorem xzZ (hH : xag X E w0 ⟨objs, n⟩ w) {t ty : TypeId} {v : AV} {z : Eff} (h : lenA P objs (P.underlying t) v = some z) :
  ∃ u, z = ⟨none, [], 0, [], u⟩ ∧ AV.all (fun k => k < n) u ∧ (Builtin.len_ #[t] ty #[v.den E]).run P w = .ok (u.den E) w := by
 have key : ∀ {te : TypeId} {a : Option Addr} {m c : Nat}, P.underlying t = some (.slice te) → (Builtin.len_ #[t] ty #[.slice a m c]).run P w = .ok (.int .i64 m) w := by
  intro te a m c hu
  simp [Builtin.len_, run_underlying hu, goInt]
 unfold lenA at h
 split at h
 ·rename_i te k0 hu
  split at h
  ·rename_i k1 ver own e sz els hf
   cases h
   obtain ⟨hm, hk⟩ := xah hf
   have hk : k1 = k0 := hk
   subst hk
   obtain ⟨h1, _, _⟩ := hH.objs _ hm
   obtain ⟨a, c, hv, _⟩ := h1.reads.is
   have hv : E k1 = _ := hv
   exact ⟨_, rfl, trivial, by simp only [AV.den, hv]; exact key hu⟩
  ·rename_i k1 ver own e ks l hf
   cases h
   obtain ⟨hm, hk⟩ := xah hf
   have hk : k1 = k0 := hk
   subst hk
   have h1 : xbc w own e ks.length (E k1) l.length (rowV ks l) := hH.objs _ hm
   obtain ⟨a, c, hv, _⟩ := h1.reads.is
   exact ⟨_, rfl, trivial, by simp only [AV.den, hv]; exact key hu⟩
  ·rename_i k1 ver own e ks l hf
   cases h
   obtain ⟨hm, hk⟩ := xah hf
   have hk : k1 = k0 := hk
   subst hk
   have h1 : xbc w own e ks.length (E k1) l.length (rowV ks l) := (hH.objs _ hm).2
   obtain ⟨a, c, hv, _⟩ := h1.reads.is
   exact ⟨_, rfl, trivial, by simp only [AV.den, hv]; exact key hu⟩
  ·rename_i k1 ver own e ks l hf
   cases h
   obtain ⟨hm, hk⟩ := xah hf
   have hk : k1 = k0 := hk
   subst hk
   obtain ⟨vs, h1⟩ := hH.objs _ hm
   obtain ⟨a, c, hv, _⟩ := h1.row.reads.is
   have hv : E k1 = _ := hv
   exact ⟨_, rfl, trivial, by simp only [AV.den, hv]; exact key hu⟩
  ·rename_i k1 ver own hf
   cases h
   obtain ⟨hm, hk⟩ := xah hf
   have hk : k1 = k0 := hk
   subst hk
   have h1 : E k1 = .slice none 0 0 := hH.objs _ hm
   exact ⟨_, rfl, trivial, by simp only [AV.den, h1]; exact key hu⟩
  ·cases h
 ·rename_i te a m c hu
  cases h
  exact ⟨_, rfl, trivial, key hu⟩
 ·rename_i te k0 sz lo hi hu
  split at h
  ·rename_i o hf
   split at h
   ·rename_i y hr
    cases h
    obtain ⟨e, ks, l⟩ := y
    obtain ⟨hm, hk⟩ := xah hf
    subst hk
    obtain ⟨a, c, hv, _⟩ := (xbT hr (hH.objs _ hm)).reads.is
    exact ⟨_, rfl, trivial, by simp only [AV.den, xgJ, hv, sliced]; exact key hu⟩
   ·cases h
  ·cases h
 ·cases h
theorem xAh {bytes : Nat} {s : AV} {o : Option Obj} {key2 : Nat} {b2 : Body} {x : Eff} (h : xoN P K bytes s o key2 b2 = some x) : x.nk = 1 := by
 unfold xoN at h
 repeat' split at h
 all_goals first | (cases h; done) | (cases h; rfl)
theorem xxJ {t : TypeId} {s y : AV} {x : Eff} (h : xi4 P objs K t s y = some x) : x.nk = 1 := by
 unfold xi4 at h
 split at h
 ·split at h
  ·split at h
   ·split at h
    ·obtain ⟨z, hz, rfl⟩ := Option.map_eq_some_iff.1 h
     show z.nk = 1
     exact xAh hz
    ·cases h
   ·cases h
  ·cases h
 ·cases h
theorem xvu (hH : xag X E w0 ⟨objs, n⟩ w) {t : TypeId} {v : AV} {x : Eff} (h : xqh P objs K t v = some x) {hiv mxv : Value} (h1 : ∃ k, hiv = .int k 0) (h2 : ∃ k, mxv = .int k 0) :
  xe7 n objs K x ∧ x.nk = 1 ∧ ∃ E' w', (Instr.sliceAt t (v.den E) none (some hiv) (some mxv)).run P w = .ok (x.v.den E') w' ∧ xhI E objs w K x E' w' := by
 obtain ⟨k, rfl⟩ := h1
 obtain ⟨k', rfl⟩ := h2
 unfold xqh at h
 split at h
 case h_2 => cases h
 rename_i te hu
 split at h
 case h_2 => cases h
 rename_i sz hs
 have fin : ∀ {a : Option Addr} {len c : Nat} {b : Body}, xbi (fun k => if k = K then .slice a 0 0 else E k) w K true b → xbh (fun k => k < n) b → v.den E = .slice a len c → xv9 b = true →
   xe7 n objs K ⟨none, [], 1, [⟨K, K, true, b⟩], .sl K⟩ ∧ (⟨none, [], 1, [⟨K, K, true, b⟩], .sl K⟩ : Eff).nk = 1 ∧ ∃ E' w', (Instr.sliceAt t (v.den E) none (some (.int k 0)) (some (.int k' 0))).run P w = .ok ((AV.sl K).den E') w' ∧ xhI E objs w K ⟨none, [], 1, [⟨K, K, true, b⟩], .sl K⟩ E' w' := by
  intro a len c b hb hall hv hflat
  refine ⟨xpJ hall (Nat.lt_succ_self K), rfl, _, w, ?_, xpK (u := .slice a 0 0) hH.env rfl hb (Blw.refl _ _) (fun g hg => by cases a <;> simp [blkO] at hg) _ hflat⟩
  rw [hv]
  simp only [AV.den, if_true]
  exact xzM hu hs
 have nilrow : ∀ {a : Option Addr} {e : TypeId} {ks : List CK}, xbi (fun k => if k = K then .slice a 0 0 else E k) w K true (.row e ks []) := by
  intro a e ks
  show xbc w true e ks.length (if K = K then .slice a 0 0 else E K) 0 (rowV ks [])
  rw [if_pos rfl]
  exact xfw (.inl ⟨a, rfl, rfl⟩) (by simp [rowV])
 split at h
 ·rename_i key
  split at h
  case h_2 => cases h
  rename_i o hf
  obtain ⟨hm, hk⟩ := xah hf
  subst hk
  have hb := hH.objs _ hm
  split at h
  ·rename_i hbody
   cases h
   rw [hbody] at hb
   have hE : E o.key = .slice none 0 0 := hb
   exact fin (a := none) (by show (if K = K then _ else _) = _; rw [if_pos rfl]) xoM hE rfl
  ·split at h
   case h_2 => cases h
   rename_i e ks l hr
   split at h
   ·cases h
    obtain ⟨a, c, hv, _⟩ := (xbT hr hb).reads.is
    exact fin nilrow xb0 hv rfl
   ·cases h
 ·cases h
  exact fin (a := none) (by show (if K = K then _ else _) = _; rw [if_pos rfl]) xoM rfl rfl
 ·cases h
theorem xrp {x : Option AV} (h : xv5 x = true) : ∃ k, x = some (.val (.int k 0)) := by
 unfold xv5 at h
 split at h
 ·rename_i k n
  exact ⟨k, by rw [of_decide_eq_true h]⟩
 ·cases h
theorem xry (hH : xag X E w0 ⟨objs, n⟩ w) (hρ : ∀ x v, ρ x = some v → e x = v.den E ∧ AV.lt K v) (hKn : K ≤ n) (o : Oper) {z : Eff} (h : xhk P ρ objs K o.op = some z) (hfr : z.nk ≠ 0 → ∀ o ∈ objs, o.key ≠ K ∧ xbh (fun k => k ≠ K) o.body) :
  xe7 n objs K z ∧ OpOk P E objs w K e o z ∧ z.nk ≤ 1 := by
 have hρ1 : ∀ x v, ρ x = some v → e x = v.den E := fun x v h => (hρ x v h).1
 have hρ2 : ∀ x v, ρ x = some v → AV.all (fun k => k < n) v := fun x v h => xg9 hKn v (hρ x v h).2
 have hρL : ∀ (l : List Operand) (vs : List AV), xmM ρ l = some vs → AV.allL (fun k => k < n) vs := fun l vs h => (xfQ _ _).2 (xmL (Q := AV.all (fun k => k < n)) hρ2 l vs h)
 have newbox : ∀ {t : TypeId} {cs : List AV}, AV.allL (fun k => k < K) cs → (execOp e o).run P w = .ok (.value (.pointer (some ⟨w.heap.size, 0, none⟩))) (w.alloc (.cells (AV.denL E cs).toArray t)) →
   xe7 n objs K ⟨none, [], 1, [⟨K, K, true, .cells cs⟩], .ptr K 0⟩ ∧ OpOk P E objs w K e o ⟨none, [], 1, [⟨K, K, true, .cells cs⟩], .ptr K 0⟩ ∧ (⟨none, [], 1, [⟨K, K, true, .cells cs⟩], .ptr K 0⟩ : Eff).nk ≤ 1 := by
  intro t cs hcs hr
  refine ⟨xpJ (xlU (fun k hk => Nat.lt_of_lt_of_le hk hKn) _ hcs) (Nat.lt_succ_self K), fun _ => ⟨_, _, _, hr, .inl ?_, xpK (u := .pointer (some ⟨w.heap.size, 0, none⟩)) hH.env rfl ?_ (xb1 _ _) ?_ _⟩, Nat.le_refl _⟩
  ·simp [AV.den, blk]
  ·refine ⟨w.heap.size, t, if_pos rfl, ?_⟩
   rw [xcC (E := E) (fun k (hk : k < K) => if_neg (by omega)) cs hcs]
   exact xb8 w _
  ·intro g hg; cases hg; exact Nat.le_refl _
 generalize hop : o.op = op at h
 unfold xhk at h
 split at h
 ·-- move
  split at h
  ·rename_i v hv; cases h; exact xdE hH (hρ2 _ _ hv) fun _ => by simp [execOp, hop, hρ1 _ _ hv]
  ·cases h
 ·split at h
  ·rename_i v hv; cases h; exact xdE hH (hρ2 _ _ hv) fun _ => by simp [execOp, hop, hρ1 _ _ hv]
  ·cases h
 ·-- alloc
  rename_i t
  split at h
  ·rename_i z' hz
   cases h
   exact newbox (t := t) (xlw (xxL hz _)) (by simp [execOp, hop, Instr.alloc, xo5 hz E, newVar, newRow, xic (xos hz) hH.env])
  ·cases h
 ·-- box
  rename_i t x
  split at h
  ·rename_i v hv
   split at h
   ·rename_i hpl
    cases h
    exact newbox (t := t) (xlw (hρ _ _ hv).2) (by simp [execOp, hop, Instr.box, hρ1 _ _ hv, newVar, newRow, xic hpl hH.env])
   ·cases h
  ·cases h
 ·-- buildSlice
  rename_i t len parts
  obtain ⟨x, hx, hxz⟩ := Option.map_eq_some_iff.1 h
  obtain ⟨h1, E', w', hr, he⟩ := xqQ hH hρ hKn hx
  have hxn : x.nk = 1 := by
   clear hxz he hr
   unfold xef at hx
   split at hx
   ·split at hx
    ·split at hx
     ·split at hx
      ·cases hx; rfl
      ·cases hx
     ·cases hx
    ·cases hx
   ·cases hx
  cases hy : xtY P objs K x with
  | none =>
   rw [hy] at hxz
   have hxz : x = z := hxz
   subst hxz
   refine ⟨h1, fun _ => ⟨E', w', .value (x.v.den E'), ?_, .inl rfl, he⟩, Nat.le_of_eq hxn⟩
   simp only [execOp, hop, Sem.run_bind, hr, Result.andThen_ok, Sem.run_pure]
  | some y =>
   rw [hy] at hxz
   have hxz : y = z := hxz
   subst hxz
   have hnz : y.nk = 1 := by
    clear hr he h1 hfr
    unfold xtY at hy
    split at hy
    ·split at hy
     ·split at hy
      ·split at hy
       ·split at hy
        ·cases hy; rfl
        ·cases hy
       ·cases hy
      ·cases hy
     ·cases hy
    ·cases hy
   obtain ⟨g1, g2, g3, g4, _⟩ := xxU hH (fun o ho => (hfr (by rw [hnz]; exact Nat.one_ne_zero) o ho).1) h1 he hy
   refine ⟨g1, fun _ => ⟨E', w', .value (y.v.den E'), ?_, .inl rfl, g2⟩, Nat.le_of_eq g4⟩
   rw [g3]
   simp only [execOp, hop, Sem.run_bind, hr, Result.andThen_ok, Sem.run_pure]
 ·-- build
  rename_i t parts
  split at h
  ·rename_i z' place ps hz hp hps
   split at h
   ·rename_i cs hcs
    cases h
    have hbuilt : P.built t (parts.map fun (i, x) => (i, e x)).toList = some (AV.denL E cs).toArray := by
     have hl : (parts.map fun (i, x) => (i, e x)).toList = ps.map fun p => (p.1, p.2.den E) := by
      rw [Array.toList_map]; exact xmJ hρ1 _ _ hps
     have hf := xuZ E hH.env ps z'.cells cs hcs
     rw [hl]
     have hpl := xos hz
     unfold xqa at hz
     unfold Program.built
     split at hz
     ·rename_i it hit
      cases h2 : it.zero with
      | none => simp [h2] at hz
      | some v =>
       have hzc : v.cells.toList = AV.denL E z'.cells := by
        have := xic hpl hH.env
        simp only [h2, Option.map_some, Option.some.injEq] at hz
        rw [← hz, xj7] at this
        rw [this, hz]
       have hzc' : v.cells = (AV.denL E z'.cells).toArray := by rw [← hzc]
       unfold xAU at hp
       split at hp
       ·rename_i n te hu
        cases hie : P.info? te with
        | none => simp [hie] at hp
        | some ie =>
         simp only [hie, Option.map_some, Option.some.injEq] at hp
         subst hp
         simp only [hit, hu, h2, hie, hzc']
         exact hf
       ·rename_i fields hu
        cases hm : fields.toList.mapM (fun f => (P.info? f.type).map fun i => (f.offset, i.size)) with
        | none => simp [hm] at hp
        | some places =>
         simp only [hm, Option.map_some, Option.some.injEq] at hp
         subst hp
         simp only [hit, hu, h2, hm, hzc']
         exact hf
       ·cases hp
     ·cases hz
    refine xdE hH ?_ fun _ => by simp [execOp, hop, run_build w t _ _ hbuilt, AV.den]
    exact xzz ps z'.cells cs hcs (xpr (Q := AV.all (fun k => k < n)) hρ2 _ _ hps) (xlw (xxL hz _))
   ·cases h
  ·cases h
 ·-- load
  rename_i t x
  split at h
  ·rename_i v hv
   split at h
   ·rename_i y hy
    cases h
    obtain ⟨g1, g2, g3⟩ := xxd hH hy
    refine ⟨g1, fun hp => ?_, g2⟩
    obtain ⟨E', hr, he⟩ := g3 hp
    exact ⟨E', w, .value (z.v.den E'), by simp [execOp, hop, hρ1 _ _ hv, hr], .inl rfl, he⟩
   ·obtain ⟨p, u, rfl, hu, hr⟩ := xyh hH h
    exact xdE hH hu fun hp => by simp [execOp, hop, hρ1 _ _ hv, hr hp]
  ·cases h
 ·-- store
  rename_i t x y
  split at h
  ·rename_i a v ha hv
   obtain ⟨h1, h2, h3⟩ := xwC hH (hρ2 _ _ hv) h
   refine ⟨h1, fun hp => ?_, ?_⟩
   ·obtain ⟨w', hr, he⟩ := h3 hp
    exact ⟨E, w', .skip, by simp [execOp, hop, hρ1 _ _ ha, hρ1 _ _ hv, hr], .inr ⟨rfl, by rw [h2]; rfl⟩, he⟩
   ·unfold xsh at h
    split at h
    ·split at h
     ·split at h
      ·cases h; exact Nat.zero_le _
      ·cases h
     ·cases h
    ·split at h
     ·split at h
      ·split at h
       ·split at h
        ·cases h; exact Nat.zero_le _
        ·cases h
       ·cases h
      ·cases h
     ·cases h
    ·cases h
  ·cases h
 ·-- nilCheck
  split at h
  ·rename_i hx; cases h; exact xdE hH (hρ2 _ _ hx) fun _ => by simp [execOp, hop, hρ1 _ _ hx, AV.den]
  ·rename_i hx; cases h; exact xdE hH (hρ2 _ _ hx) fun _ => by simp [execOp, hop, hρ1 _ _ hx, AV.den]
  ·rename_i hx; cases h; exact xdE hH (hρ2 _ _ hx) fun _ => by simp [execOp, hop, hρ1 _ _ hx, AV.den]
  ·cases h
 ·-- binOp
  rename_i op t x y yt
  split at h
  ·rename_i k a k' b hx hy
   split at h
   ·rename_i hk; subst hk
    exact xyq hH op k a b t yt x y o hop (hρ1 _ _ hx) (hρ1 _ _ hy) h
   ·cases h
  ·rename_i a b hx hy
   split at h
   ·split at h
    ·rename_i r hr
     cases h
     have := xm5 (E := E) 9 t _ _ r hr 9991 w
     simp only [AV.den] at this
     exact xdE hH trivial fun _ => by simp [execOp, hop, hρ1 _ _ hx, hρ1 _ _ hy, eqGuard, binOp, Op.equal, Op.maxDepth, this, AV.den]
    ·cases h
   ·split at h
    ·rename_i r hr
     cases h
     have := xm5 (E := E) 9 t _ _ r hr 9991 w
     simp only [AV.den] at this
     exact xdE hH trivial fun _ => by simp [execOp, hop, hρ1 _ _ hx, hρ1 _ _ hy, eqGuard, binOp, Op.equal, Op.maxDepth, this, AV.den]
    ·cases h
   ·cases h
  ·rename_i a b hx hy
   split at h
   ·rename_i hg
    split at h
    ·split at h
     ·rename_i r hr
      cases h
      have := xm5 (E := E) 9 t _ _ r hr 9991 w
      simp only [AV.den] at this
      exact xdE hH trivial fun _ => by simp [execOp, hop, hρ1 _ _ hx, hρ1 _ _ hy, run_eqGuard_agg w _ _ _ _ _ _ hg, binOp, Op.equal, Op.maxDepth, this, AV.den]
     ·cases h
    ·split at h
     ·rename_i r hr
      cases h
      have := xm5 (E := E) 9 t _ _ r hr 9991 w
      simp only [AV.den] at this
      exact xdE hH trivial fun _ => by simp [execOp, hop, hρ1 _ _ hx, hρ1 _ _ hy, run_eqGuard_agg w _ _ _ _ _ _ hg, binOp, Op.equal, Op.maxDepth, this, AV.den]
     ·cases h
    ·cases h
   ·cases h
  ·cases h
 ·-- not
  split at h
  ·rename_i hx; cases h; exact xdE hH trivial fun _ => by simp [execOp, hop, hρ1 _ _ hx, AV.den, Op.unary]
  ·cases h
 ·-- neg
  split at h
  ·rename_i hx; cases h; exact xdE hH trivial fun _ => by simp [execOp, hop, hρ1 _ _ hx, AV.den, Op.unary, Op.intArith]
  ·cases h
 ·-- convert
  rename_i src dst x
  split at h
  ·rename_i k m k1 k2 hx hs hd
   split at h
   ·cases h
    exact xdE hH trivial fun _ => by simp [execOp, hop, hρ1 _ _ hx, AV.den, convert, run_underlying hs, run_underlying hd, Conv.intToInt]
   ·cases h
  ·cases h
 ·-- makeFunc
  rename_i f first caps
  split at h
  ·rename_i a b ha hb
   cases h
   have e1 := xht hρ1 _ _ ha
   have e2 := xht hρ1 _ _ hb
   have f1 : ∀ l : Array Operand, l.map e = (l.toList.map e).toArray := fun l => by apply Array.ext'; simp
   exact xdE hH ⟨hρL _ _ ha, hρL _ _ hb⟩ fun _ => by simp only [execOp, hop, Instr.makeFunc, Sem.run_bind, Sem.run_pure, Result.andThen_ok, AV.den, ← e1, ← e2, ← f1]
  ·cases h
 ·-- fieldAddr
  rename_i s x f
  split at h
  ·rename_i v fd hx hf
   split at h
   ·rename_i m hs
    obtain ⟨p, u, rfl, hu, hr⟩ := xrS hH (hρ2 _ _ hx) h
    unfold xwe at hf
    split at hf
    ·rename_i fields hu'
     refine xdE hH hu fun hp => ?_
     obtain ⟨a, h1, h2⟩ := hr hp
     simp [execOp, hop, hρ1 _ _ hx, h1, h2, Instr.fieldAt, run_underlying hu', hf, Instr.sureAddr, fieldPlace, xcV hs]
    ·cases hf
   ·cases h
  ·cases h
 ·-- field
  rename_i s x f
  split at h
  ·rename_i cs fd hx hf
   split at h
   ·rename_i v hv
    cases h
    unfold xwe at hf
    split at hf
    ·rename_i fields hu
     have := xk3 hv E w
     exact xdE hH (xi5 hv (hρ2 _ _ hx)) fun _ => by simp [execOp, hop, hρ1 _ _ hx, AV.den, Instr.field, run_underlying hu, hf, asAgg, this]
    ·cases hf
   ·cases h
  ·cases h
 ·-- index
  split at h
  ·rename_i cs k m len el hx hi hu
   split at h
   ·rename_i sz hsz
    split at h
    ·rename_i hb
     split at h
     ·rename_i v hv
      cases h
      exact xdE hH (xi5 hv (hρ2 _ _ hx)) fun _ => by simp only [execOp, hop, Instr.index, hρ1 _ _ hx, hρ1 _ _ hi, AV.den, asIntOf, Sem.run_bind, Sem.run_pure, Result.andThen_ok, run_underlying hu, if_pos hb, xcV hsz, xk3 hv E]
     ·cases h
    ·cases h
   ·cases h
  ·cases h
 ·-- indexAddr
  split at h
  ·rename_i v m hv hm
   obtain ⟨p, u, rfl, hu, hr⟩ := xrQ hH (hρ2 _ _ hv) h
   exact xdE hH hu fun hp => by simp [execOp, hop, hρ1 _ _ hv, hρ1 _ _ hm, hr hp]
  ·cases h
 ·-- extract
  split at h
  ·rename_i vs hx
   split at h
   ·rename_i v hv
    cases h
    refine xdE hH ((xfQ _ _).1 (hρ2 _ _ hx) v (List.mem_of_getElem? hv)) fun _ => ?_
    simp [execOp, hop, hρ1 _ _ hx, AV.den, Instr.extract, xax, hv]
   ·cases h
  ·cases h
 ·-- slice
  rename_i t x lo hi
  split at h
  ·rename_i v lo' hi' hv hlo hhi
   have r1 := xlI hρ1 hlo
   have r2 := xlI hρ1 hhi
   obtain ⟨p, u, rfl, hu, hr⟩ := xwI hH (hρ2 _ _ hv) h (lov := lo.map e) (hiv := hi.map e) r1 r2
   exact xdE hH hu fun hp => by simp only [execOp, hop, hρ1 _ _ hv, Option.map_none, Sem.run_bind, hr hp, Result.andThen_ok, Sem.run_pure]
  ·cases h
 ·-- s[lo:hi:mx]
  rename_i t x lo hi mx
  split at h
  ·rename_i v hv
   split at h
   ·rename_i hz
    rw [Bool.and_eq_true, Bool.and_eq_true] at hz
    have hlo : lo = none := by cases lo with
     | none => rfl
     | some _ => cases hz.1.1
    subst hlo
    cases hhi : hi with
    | none => rw [hhi] at hz; cases hz.1.2
    | some hx =>
    rw [hhi] at hz
    obtain ⟨k1, e1⟩ := xrp hz.1.2
    obtain ⟨k2, e2⟩ := xrp hz.2
    have e1 : ρ hx = _ := e1
    obtain ⟨h1, h2, E', w', hr, he⟩ := xvu hH h (hiv := e hx) (mxv := e mx) ⟨k1, by rw [hρ1 _ _ e1]; rfl⟩ ⟨k2, by rw [hρ1 _ _ e2]; rfl⟩
    refine ⟨h1, fun hp => ⟨E', w', _, ?_, .inl rfl, he⟩, by rw [h2]; exact Nat.le_refl _⟩
    simp only [execOp, hop, hρ1 _ _ hv, hhi, Option.map_none, Option.map_some, Sem.run_bind, hr, Result.andThen_ok, Sem.run_pure]
   ·split at h
    ·rename_i lo' hi' mx' hlo hhi hmx
     have r1 := xlI hρ1 hlo
     have r2 := xlI hρ1 hhi
     obtain ⟨k, hk⟩ := r2
     cases hi with
     | none => cases hk
     | some hx =>
     have hk : some (e hx) = some (.int k hi') := hk
     injection hk with hk
     cases hmv : ρ mx with
     | none => rw [hmv] at hmx; cases hmx
     | some mv =>
     rw [hmv] at hmx
     obtain ⟨k2, hk2⟩ := xr5 (show intA mv = some mx' from hmx) E
     obtain ⟨h1, h2, h3⟩ := xvs hH h (lov := lo.map e) r1 (hiv := e hx) (mxv := e mx) ⟨k, hk⟩ ⟨k2, by rw [hρ1 _ _ hmv]; exact hk2⟩
     refine ⟨h1, fun hp => ?_, by rw [h2]; exact Nat.le_refl _⟩
     obtain ⟨E', w', hr, he⟩ := h3 hp
     refine ⟨E', w', _, ?_, .inl rfl, he⟩
     simp only [execOp, hop, hρ1 _ _ hv, Option.map_some, Sem.run_bind, hr, Result.andThen_ok, Sem.run_pure]
    ·cases h
  ·cases h
 ·-- makeMap
  rename_i t
  obtain ⟨h1, h2, h3⟩ := xuh hH h
  refine ⟨h1, fun hp => ?_, h2⟩
  obtain ⟨E', w', hr, he⟩ := h3 hp
  exact ⟨E', w', _, by simp only [execOp, hop, Option.map_none, Sem.run_bind, hr, Result.andThen_ok, Sem.run_pure], .inl rfl, he⟩
 ·-- lookup
  rename_i t x ix ok
  split at h
  ·rename_i v k hv hk
   obtain ⟨h1, h2, h3, h4, h5⟩ := xvT hH h
   obtain ⟨p, rm, nk, add, vv⟩ := z
   simp only [] at h1 h2 h3 h4 h5
   subst h1; subst h2; subst h3
   exact ⟨xnz _ (xgk (fun k hk => hk.elim) _ h4), fun hp => ⟨E, w, _, by simp only [execOp, hop, hρ1 _ _ hv, hρ1 _ _ hk, Sem.run_bind, h5 hp, Result.andThen_ok, Sem.run_pure], .inl rfl, xnA hH.env _ _⟩, Nat.zero_le _⟩
  ·cases h
 ·-- mapUpdate
  rename_i t x ix y
  split at h
  ·rename_i v k u hv hk hu
   obtain ⟨h1, h2, h3, h4⟩ := xrM hH h
   refine ⟨h1, fun hp => ?_, h2⟩
   obtain ⟨w', hr, he⟩ := h4 hp
   exact ⟨E, w', .skip, by simp only [execOp, hop, hρ1 _ _ hv, hρ1 _ _ hk, hρ1 _ _ hu, Sem.run_bind, hr, Result.andThen_ok, Sem.run_pure], .inr ⟨rfl, by rw [h3]; rfl⟩, he⟩
  ·cases h
 ·-- builtins
  rename_i b args argTypes
  split at h
  ·rename_i vs hvs
   have e1 := xht hρ1 _ _ hvs
   have e2 : (args.map e).toList = AV.denL E vs := by rw [Array.toList_map]; exact e1
   have hvl := hρL _ _ hvs
   split at h
   ·-- min
    split at h
    ·rename_i k a r
     split at h
     ·rename_i v hv
      cases h
      obtain ⟨m, rfl⟩ := xA5 hv
      have := xvQ (P := P) (E := E) (f := Builtin.min2) (fun k a b => rfl) k r a _ hv w
      exact xdE hH trivial fun _ => by simp only [execOp, hop, resolve, Sem.run_bind, Sem.run_pure, Result.andThen_ok, invoke, builtin, Builtin.min_, e2, AV.denL, AV.den, this]
     ·cases h
    ·cases h
   ·-- max
    split at h
    ·rename_i k a r
     split at h
     ·rename_i v hv
      cases h
      obtain ⟨m, rfl⟩ := xA5 hv
      have := xvQ (P := P) (E := E) (f := Builtin.max2) (fun k a b => rfl) k r a _ hv w
      exact xdE hH trivial fun _ => by simp only [execOp, hop, resolve, Sem.run_bind, Sem.run_pure, Result.andThen_ok, invoke, builtin, Builtin.max_, e2, AV.denL, AV.den, this]
     ·cases h
    ·cases h
   ·-- len
    split at h
    ·rename_i x
     cases hat : argTypes[0]? with
     | none => rw [hat] at h; simp only [Option.bind_none] at h; unfold lenA at h; cases h
     | some t =>
      rw [hat] at h
      obtain ⟨u, rfl, hu, hr⟩ := xzZ (ty := o.type) hH h
      refine xdE hH hu fun _ => ?_
      have e3 : args.map e = #[x.den E] := by apply Array.ext'; rw [e2]; rfl
      have hr' : (Builtin.len_ argTypes o.type #[x.den E]).run P w = .ok (u.den E) w := by
       rw [← hr]
       unfold Builtin.len_
       simp [hat]
      simp only [execOp, hop, resolve, Sem.run_bind, Sem.run_pure, Result.andThen_ok, invoke, builtin, e3, hr']
    ·cases h
   ·-- append
    split at h
    ·rename_i s x t t' hts
     split at h
     ·rename_i htt
      subst htt
      have e3 : args.map e = #[s.den E, x.den E] := by apply Array.ext'; rw [e2]; rfl
      have e4 : argTypes = #[t, t] := by apply Array.ext'; exact hts
      split at h
      ·obtain ⟨h1, h2, h3⟩ := xtM (ty := o.type) hH hvl.1 h
       refine ⟨h1, fun hp => ?_, by rw [h2]; exact Nat.zero_le _⟩
       obtain ⟨w', hr, he⟩ := h3 hp
       exact ⟨E, w', .value (z.v.den E), by simp only [execOp, hop, resolve, Sem.run_bind, Sem.run_pure, Result.andThen_ok, invoke, builtin, e3, e4, hr], .inl rfl, he⟩
      ·split at h
       ·rename_i y hy
        cases h
        obtain ⟨h1, h2, h3⟩ := xuA (ty := o.type) hH hy
        refine ⟨h1, fun hp => ?_, Nat.le_of_eq h2⟩
        obtain ⟨E', w', hr, he⟩ := h3 hp
        exact ⟨E', w', .value (z.v.den E'), by simp only [execOp, hop, resolve, Sem.run_bind, Sem.run_pure, Result.andThen_ok, invoke, builtin, e3, e4, hr], .inl rfl, he⟩
       obtain ⟨h1, h2, h3⟩ := xtO (ty := o.type) hH (hfr (by rw [xxJ h]; exact Nat.one_ne_zero)) h
       refine ⟨h1, fun hp => ?_, h2⟩
       obtain ⟨E', w', hr, he⟩ := h3 hp
       exact ⟨E', w', .value (z.v.den E'), by simp only [execOp, hop, resolve, Sem.run_bind, Sem.run_pure, Result.andThen_ok, invoke, builtin, e3, e4, hr], .inl rfl, he⟩
     ·cases h
    ·cases h
   ·-- clear
    split at h
    ·rename_i x t hts
     obtain ⟨h1, h2, h3, h4⟩ := xxD (ty := o.type) hH h
     have e3 : args.map e = #[x.den E] := by apply Array.ext'; rw [e2]; rfl
     have e4 : argTypes = #[t] := by apply Array.ext'; exact hts
     refine ⟨h1, fun hp => ?_, by rw [h2]; exact Nat.zero_le _⟩
     obtain ⟨w', hr, he⟩ := h4 hp
     exact ⟨E, w', .value (z.v.den E), by rw [h3]; simp only [execOp, hop, resolve, Sem.run_bind, Sem.run_pure, Result.andThen_ok, invoke, builtin, e3, e4, hr]; rfl, .inl rfl, he⟩
    ·cases h
   ·cases h
  ·cases h
 ·cases h
end
end Go.Sy
