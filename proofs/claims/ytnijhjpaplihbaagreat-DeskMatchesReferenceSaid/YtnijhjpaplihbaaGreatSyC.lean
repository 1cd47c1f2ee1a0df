/-
 The executor's operations are sound: rows; what an operation does, said of the model.
-/
import Derived.Test.YtnijhjpaplihbaaGreatSyB
set_option linter.unusedVariables false
namespace Go.Sy
open Go.RowKit
theorem xiG (b off i : Nat) : (⟨b, off, none⟩ : Addr).add i = ⟨b, off + i, none⟩ := by unfold Addr.add; split <;> simp_all
theorem xni (a : Addr) (m n : Nat) : (a.add m).add n = a.add (m + n) := by
 unfold Addr.add
 by_cases hm : m = 0
 ·subst hm; simp
 ·by_cases hn : n = 0
  ·subst hn; simp
  ·have : ¬ (m + n = 0) := by omega
   simp [hm, hn, Nat.add_assoc]
theorem xep : ∀ (ks : List CK) (j : Nat) (el : List Int), (elV ks j el).length = ks.length
 | [], _, _ => rfl
 | k :: ks, j, el => by simp [elV, xep ks (j + 1) el]
theorem xu3 : ∀ (ks : List CK) (j : Nat) (el : List Int), (elA ks j el).length = ks.length
 | [], _, _ => rfl
 | k :: ks, j, el => by simp [elA, xu3 ks (j + 1) el]
theorem xwp (E : Env) (k : CK) (n : Int) : (k.cell n).den E = k.val n := by cases k <;> rfl
theorem xwj (E : Env) : ∀ (ks : List CK) (j : Nat) (el : List Int), AV.denL E (elA ks j el) = elV ks j el
 | [], _, _ => rfl
 | k :: ks, j, el => by simp [elA, elV, AV.denL, xwp, xwj E ks (j + 1) el]
theorem xwk (p : Nat → Prop) : ∀ (ks : List CK) (j : Nat) (el : List Int), AV.allL p (elA ks j el)
 | [], _, _ => trivial
 | k :: ks, j, el => ⟨by cases k <;> trivial, xwk p ks (j + 1) el⟩
theorem xtp : ∀ (ks : List CK) (j : Nat) (el : List Int) (i : Nat), (elV ks j el)[i]? = (ks[i]?).map fun k => k.val (el.getD (j + i) 0)
 | [], _, _, _ => by simp [elV]
 | k :: ks, j, el, 0 => by simp [elV]
 | k :: ks, j, el, i + 1 => by simp [elV, xtp ks (j + 1) el i, Nat.add_comm, Nat.add_left_comm]
theorem xyw : ∀ (ks : List CK) (j : Nat) (el : List Int), ∀ u ∈ elV ks j el, u.oneCell' = true
 | [], _, _, u, h => by simp [elV] at h
 | k :: ks, j, el, u, h => by
  rcases List.mem_cons.1 h with rfl | h
  ·cases k <;> rfl
  ·exact xyw ks (j + 1) el u h
theorem xbn (ks : List CK) : ∀ l : List (List Int), (rowV ks l).length = l.length * ks.length
 | [] => by simp [rowV]
 | a :: r => by
  have := xbn ks r
  simp only [rowV, List.flatMap_cons, List.length_append, xep, List.length_cons] at *
  rw [this, Nat.add_mul, Nat.one_mul, Nat.add_comm]
theorem xoz (ks : List CK) (l l' : List (List Int)) : rowV ks (l ++ l') = rowV ks l ++ rowV ks l' := by simp [rowV]
theorem xo7 (ks : List CK) (l : List (List Int)) : ∀ u ∈ rowV ks l, u.oneCell' = true := by
 intro u h
 simp only [rowV, List.mem_flatMap] at h
 obtain ⟨el, _, h⟩ := h
 exact xyw ks 0 el u h
theorem xnq (ks : List CK) : ∀ (l : List (List Int)) (i j : Nat), j < ks.length → i < l.length → (rowV ks l)[i * ks.length + j]? = (elV ks 0 (l.getD i []))[j]?
 | [], i, j, _, h => by simp at h
 | a :: r, 0, j, hj, _ => by
  simp only [rowV, List.flatMap_cons, Nat.zero_mul, Nat.zero_add]
  rw [List.getElem?_append_left (by rw [xep]; exact hj)]
  simp
 | a :: r, i + 1, j, hj, h => by
  have := xnq ks r i j hj (by simpa using h)
  simp only [rowV, List.flatMap_cons] at *
  rw [List.getElem?_append_right (by rw [xep, Nat.add_mul, Nat.one_mul]; omega), xep]
  rw [show (i + 1) * ks.length + j - ks.length = i * ks.length + j from by rw [Nat.add_mul, Nat.one_mul]; omega, this]
  simp
theorem xzr (E : Env) {k : CK} {v : AV} {n : Int} (h : xBL k v = some n) : v.den E = k.val n := by
 unfold xBL at h
 split at h
 ·split at h
  ·rename_i hk; cases h; subst hk; rfl
  ·cases h
 ·split at h
  ·rename_i hk; cases h; subst hk; rfl
  ·cases h
 ·cases h; rename_i b; cases b <;> rfl
 ·cases h; rename_i b; cases b <;> rfl
 ·cases h
theorem xj9 (E : Env) : ∀ {ks : List CK} {vs : List AV} {ns : List Int} (pre : List Int), xp2 ks vs = some ns → AV.denL E vs = elV ks pre.length (pre ++ ns)
 | [], [], ns, pre, h => by cases h; rfl
 | k :: ks, v :: vs, ns, pre, h => by
  unfold xp2 at h
  split at h
  ·rename_i n ms h1 h2
   cases h
   have ih := xj9 E (pre ++ [n]) h2
   simp only [AV.denL, elV, xzr E h1]
   congr 1
   ·congr 1; simp
   ·rw [ih]; simp
  ·cases h
 | [], _ :: _, _, _, h => by cases h
 | _ :: _, [], _, _, h => by cases h
theorem xnd : ∀ {ks : List CK} {vs : List AV} {ns : List Int}, xp2 ks vs = some ns → vs.length = ks.length ∧ ns.length = ks.length
 | [], [], ns, h => by cases h; exact ⟨rfl, rfl⟩
 | k :: ks, v :: vs, ns, h => by
  unfold xp2 at h
  split at h
  ·rename_i n ms h1 h2
   cases h
   have := xnd h2
   simp [this.1, this.2]
  ·cases h
 | [], _ :: _, _, h => by cases h
 | _ :: _, [], _, h => by cases h
theorem xp1 (E : Env) : ∀ {ks : List CK} {els : List (List AV)} {l : List (List Int)}, xxC ks els = some l → AV.denL E els.flatten = rowV ks l ∧ l.length = els.length
 | ks, [], l, h => by cases h; exact ⟨rfl, rfl⟩
 | ks, el :: els, l, h => by
  unfold xxC at h
  split at h
  ·rename_i n ms h1 h2
   cases h
   obtain ⟨e1, e2⟩ := xp1 E h2
   have e3 := xj9 E [] h1
   simp only [List.length_nil, List.nil_append] at e3
   refine ⟨?_, by simp [e2]⟩
   rw [List.flatten_cons, xax, List.map_append, ← xax, ← xax, e1, e3]
   simp [rowV]
  ·cases h
theorem xAA (sz : Nat) (el : List Int) (off : Nat) (ns : List Int) (j : Nat) (h : j < sz) : (xqm sz el off ns).getD j 0 = if off ≤ j ∧ j < off + ns.length then ns.getD (j - off) 0 else el.getD j 0 := by
 simp [xqm, List.getD_eq_getElem?_getD, List.getElem?_map, List.getElem?_range, h]
theorem xCa {ks : List CK} {l : List (List Int)} {i off : Nat} {ns : List Int} (hi : i < l.length) (ho : off + ns.length ≤ ks.length) {vs : List Value} (hvs : vs = elV ((ks.drop off).take ns.length) 0 ns) :
  rowV ks (l.set i (xqm ks.length (l.getD i []) off ns)) = (rowV ks l).take (i * ks.length + off) ++ vs ++ (rowV ks l).drop (i * ks.length + off + vs.length) := by
 have hvl : vs.length = ns.length := by rw [hvs, xep]; simp; omega
 have hpos : ks.length = 0 ∨ 0 < ks.length := by omega
 have hil : (i + 1) * ks.length ≤ l.length * ks.length := Nat.mul_le_mul_right _ hi
 have hil2 : (i + 1) * ks.length = i * ks.length + ks.length := by rw [Nat.add_mul, Nat.one_mul]
 apply List.ext_getElem?
 intro k
 by_cases hk : k < l.length * ks.length
 ·have hz : 0 < ks.length := by
   rcases hpos with h | h
   ·rw [h, Nat.mul_zero] at hk; omega
   ·exact h
  have hk1 : k / ks.length < l.length := (Nat.div_lt_iff_lt_mul hz).2 hk
  have hk2 : k % ks.length < ks.length := Nat.mod_lt _ hz
  have hk3 : k = k / ks.length * ks.length + k % ks.length := by rw [Nat.mul_comm]; exact (Nat.div_add_mod k ks.length).symm
  have lhs := xnq ks (l.set i (xqm ks.length (l.getD i []) off ns)) (k / ks.length) (k % ks.length) hk2 (by simpa using hk1)
  have rhs := xnq ks l (k / ks.length) (k % ks.length) hk2 hk1
  rw [← hk3] at lhs rhs
  rw [lhs]
  have hlen : (rowV ks l).length = l.length * ks.length := xbn ks l
  by_cases hki : k / ks.length = i
  ·rw [hki] at rhs lhs ⊢
   have hgd : (l.set i (xqm ks.length (l.getD i []) off ns)).getD i [] = xqm ks.length (l.getD i []) off ns := by
    rw [List.getD_eq_getElem?_getD, List.getElem?_set_self hi]; rfl
   rw [hgd, xtp]
   have hkk : k = i * ks.length + k % ks.length := by rw [← hki]; exact hk3
   simp only [Nat.zero_add]
   rw [xAA _ _ _ _ _ hk2]
   by_cases hin : off ≤ k % ks.length ∧ k % ks.length < off + ns.length
   ·rw [if_pos hin]
    rw [List.append_assoc, List.getElem?_append_right (by simp; omega), List.getElem?_append_left (by simp; omega)]
    simp only [List.length_take, hlen]
    rw [show k - min (i * ks.length + off) (l.length * ks.length) = k % ks.length - off from by omega]
    rw [hvs, xtp]
    rw [List.getElem?_take, if_pos (by omega), List.getElem?_drop, Nat.zero_add]
    rw [show off + (k % ks.length - off) = k % ks.length from by omega]
   ·rw [if_neg hin]
    rw [xtp] at rhs
    simp only [Nat.zero_add] at rhs
    rw [← rhs]
    by_cases hlo : k % ks.length < off
    ·rw [List.append_assoc, List.getElem?_append_left (by simp; omega), List.getElem?_take, if_pos (by omega)]
    ·rw [List.getElem?_append_right (by simp; omega), List.getElem?_drop]
     congr 1
     simp [hlen]
     omega
  ·have hgd : (l.set i (xqm ks.length (l.getD i []) off ns)).getD (k / ks.length) [] = l.getD (k / ks.length) [] := by
    rw [List.getD_eq_getElem?_getD, List.getElem?_set_ne (fun e => hki e.symm), ← List.getD_eq_getElem?_getD]
   rw [hgd, ← rhs]
   by_cases hlo : k / ks.length < i
   ·have : (k / ks.length + 1) * ks.length ≤ i * ks.length := Nat.mul_le_mul_right _ hlo
    rw [Nat.add_mul, Nat.one_mul] at this
    rw [List.append_assoc, List.getElem?_append_left (by simp; omega), List.getElem?_take, if_pos (by omega)]
   ·have : (i + 1) * ks.length ≤ k / ks.length * ks.length := Nat.mul_le_mul_right _ (by omega)
    rw [List.getElem?_append_right (by simp; omega), List.getElem?_drop]
    congr 1
    simp [hlen]
    omega
 ·have h1 : (rowV ks (l.set i (xqm ks.length (l.getD i []) off ns)))[k]? = none := List.getElem?_eq_none (by rw [xbn]; simp; omega)
  rw [h1]
  symm
  apply List.getElem?_eq_none
  simp [xbn]
  omega
section
variable {P : Program} {E : Env} {w0 w : World} {H : Heap} {ρ : Operand → Option AV} {e : Operand → Value}
theorem xbT {b : Body} {e : TypeId} {ks : List CK} {l : List (List Int)} (h : xe6 P b = some (e, ks, l)) {key : Nat} {own : Bool} (hb : xbi E w key own b) : xbc w own e ks.length (E key) l.length (rowV ks l) := by
 cases b with
 | row e' ks' l' => cases h; exact hb
 | sub e' ks' l' => cases h; exact hb.2
 | arr e' sz els =>
  simp only [xe6] at h
  cases hk : xrP P 9 e' with
  | none => rw [hk] at h; cases h
  | some ks' =>
   rw [hk] at h
   simp only [] at h
   split at h
   ·rename_i hl
    cases hc : xxC ks' els with
    | none => rw [hc] at h; cases h
    | some l' =>
     rw [hc] at h
     cases h
     obtain ⟨e1, e2⟩ := xp1 E hc
     obtain ⟨h1, _, _⟩ := hb
     rw [e1, ← e2, ← hl] at h1
     exact h1
   ·cases h
 | cells => cases h
 | nil => cases h
 | nst => cases h
 | mp => cases h
 | fin => cases h
 | loop => cases h
theorem xo6 {t : TypeId} {cs : List AV} {a0 : Addr} {off : Nat} {v : AV} (hc : ∀ j u, (AV.denL E cs)[j]? = some u → w.cell? (a0.add j) = some u) (h : xjk P t cs off = some v) :
  (loadVar t (a0.add off)).run P w = .ok (v.den E) w := by
 unfold xjk at h
 split at h
 ·rename_i n ha hs
  split at h
  ·rename_i hl
   cases h
   have hlen : ((AV.denL E cs).drop off |>.take n).length = n := by simp [xax]; omega
   have hr := run_loadCells_list (P := P) w (a0.add off) ((AV.denL E cs).drop off |>.take n) (fun j u hj => by
    rw [xni]
    simp only [List.getElem?_take, List.getElem?_drop] at hj
    split at hj
    ·exact hc _ _ hj
    ·cases hj)
   rw [hlen] at hr
   simp only [loadVar, Sem.run_bind, xjw ha, Result.andThen_ok, if_true, xcV hs, hr]
   simp [AV.den, xax, List.map_drop, List.map_take]
  ·cases h
 ·rename_i n ha hs
  have hc := hc off (v.den E) (by simp [xax, h])
  simp [loadVar, xjw ha, hc, run_load]
 ·cases h
def Shr (E : Env) (objs : List Obj) (w : World) (rm : List Nat) (b : Nat) : Prop :=
 w.heap.size ≤ b ∨ (∃ k ∈ rm, blkO (E k) = some b) ∨ (∃ o' ∈ objs, o'.own = false ∧ o'.key ∉ rm ∧ blkO (E o'.key) = some b) ∨ ∃ o' ∈ objs, Inn E w o'.key o'.body b
def Fsh (E : Env) (objs : List Obj) (w : World) (rm : List Nat) (b : Nat) : Prop :=
 w.heap.size ≤ b ∨ (∃ k ∈ rm, blkO (E k) = some b) ∨ ∃ o' ∈ objs, Fr E w o' b
structure xhI (E : Env) (objs : List Obj) (w : World) (K : Nat) (x : Eff) (E' : Env) (w' : World) : Prop where
 agree : ∀ k, (k < K ∨ K + x.nk ≤ k) → E' k = E k
 env : ∀ k, (E' k).oneCell' = true
 chg : Chg w w' (x.rm.filterMap fun k => blkO (E k))
 bodies : ∀ o ∈ x.add, xbi E' w' o.key o.own o.body
 own : ∀ o ∈ x.add, o.own = true → ∀ b, blkO (E' o.key) = some b → w.heap.size ≤ b ∨ ∃ k ∈ x.rm, blkO (E k) = some b
 ro : ∀ o ∈ x.add, o.own = false → ∀ b, blkO (E' o.key) = some b → Shr E objs w x.rm b
 inj : ∀ o ∈ x.add, ∀ o' ∈ x.add, o.own = true → o.key ≠ o'.key → ∀ b, blkO (E' o.key) = some b → blkO (E' o'.key) ≠ some b
 dp : ∀ o ∈ x.add, ∀ b, Inn E' w' o.key o.body b → Shr E objs w x.rm b
 dq : ∀ o ∈ x.add, ∀ b, Inn E' w' o.key o.body b → ∀ o' ∈ x.add, o'.own = true → blkO (E' o'.key) ≠ some b
 df : ∀ o ∈ x.add, ∀ b, Fr E' w' o b → Fsh E objs w x.rm b
structure xe7 (n : Nat) (objs : List Obj) (K : Nat) (x : Eff) : Prop where
 rm : ∀ k ∈ x.rm, ∃ o ∈ objs, o.key = k ∧ o.own = true
 key : ∀ o ∈ x.add, o.key ∈ x.rm ∨ (K ≤ o.key ∧ o.key < K + x.nk)
 uniq : ∀ o ∈ x.add, ∀ o' ∈ x.add, o.key = o'.key → o = o'
 all : ∀ o ∈ x.add, xbh (fun k => k < n ∨ k < K + x.nk) o.body
 val : AV.all (fun k => k < n ∨ k < K + x.nk) x.v
 ver : ∀ o ∈ x.add, K ≤ o.ver
def OpOk (P : Program) (E : Env) (objs : List Obj) (w : World) (K : Nat) (e : Operand → Value) (o : Oper) (x : Eff) : Prop :=
 x.holds → ∃ E' w' nx, (execOp e o).run P w = .ok nx w' ∧ (nx = .value (x.v.den E') ∨ (nx = .skip ∧ x.v.den E' = undef)) ∧ xhI E objs w K x E' w'
theorem xnA {objs : List Obj} {K : Nat} (hE : ∀ k, (E k).oneCell' = true) (p : Option Prop) (v : AV) : xhI E objs w K ⟨p, [], 0, [], v⟩ E w :=
 ⟨fun _ _ => rfl, hE, Chg.refl _ _, by simp, by simp, by simp, by simp, by simp, by simp, by simp⟩
theorem xnz {n K : Nat} {objs : List Obj} (p : Option Prop) {v : AV} (h : AV.all (fun k => k < n ∨ k < K + 0) v) : xe7 n objs K ⟨p, [], 0, [], v⟩ :=
 ⟨by simp, by simp, by simp, by simp, h, by simp⟩
theorem xag.effAt {X : List (Nat × Go.Obj)} {l : List Obj} {n K : Nat} {x : Eff} {E' : Env} {w' : World} (h : xag X E w0 ⟨l, n⟩ w) (hw : xe7 n l K x) (he : xhI E l w K x E' w')
  (hfr : ∀ o ∈ l, (o.key < K ∨ K + x.nk ≤ o.key) ∧ xbh (fun k => k < K ∨ K + x.nk ≤ k) o.body) {n' : Nat} (hn : n ≤ n') (hn2 : K + x.nk ≤ n') : xag X E' w0 ⟨xhc x l, n'⟩ w' := by
 have hrm : ∀ g ∈ (x.rm.filterMap fun k => blkO (E k)), ∃ o ∈ l, o.own = true ∧ o.key ∈ x.rm ∧ blkO (E o.key) = some g := by
  intro g hg
  obtain ⟨k, hk, hb⟩ := List.mem_filterMap.1 hg
  obtain ⟨o, ho, rfl, hown⟩ := hw.rm k hk
  exact ⟨o, ho, hown, hk, hb⟩
 have hsz : ∀ o ∈ l, ∀ b, blkO (E o.key) = some b → b < w.heap.size := fun o ho b hg => xlt (h.objs o ho) hg
 have hnb : ∀ o ∈ l, o.key ∉ x.rm → ∀ g, blkO (E o.key) = some g → w'.heap[g]? = w.heap[g]? := by
  intro o ho hnr g hg
  refine he.chg.block g (hsz o ho g hg) fun hm => ?_
  obtain ⟨o', ho', hown', hk', hb'⟩ := hrm g hm
  exact h.inj o' ho' o ho hown' (fun e => hnr (by rw [← e]; exact hk')) g hb' hg
 have hni : ∀ o ∈ l, ∀ g, Inn E w o.key o.body g → w'.heap[g]? = w.heap[g]? := by
  intro o ho g hg
  refine he.chg.block g (xod (h.objs o ho) hg) fun hm => ?_
  obtain ⟨o', ho', hown', hk', hb'⟩ := hrm g hm
  exact h.deep o ho g hg o' ho' hown' hb'
 have hold : ∀ o ∈ l, o.key ∉ x.rm → E' o.key = E o.key ∧ xbi E' w' o.key o.own o.body := by
  intro o ho hnr
  obtain ⟨f1, f2⟩ := hfr o ho
  exact ⟨he.agree _ f1, (h.objs o ho).keep (he.agree _ f1) (xa3 (fun k hk => he.agree k hk) f2) (hnb o ho hnr) he.chg.size (hni o ho)⟩
 have hinn : ∀ o ∈ l, o.key ∉ x.rm → ∀ g, Inn E' w' o.key o.body g → Inn E w o.key o.body g := fun o ho hnr g hg =>
  xjl (h.objs o ho) (he.agree _ (hfr o ho).1) (hnb o ho hnr) hg
 have mem : ∀ o, o ∈ xhc x l → o ∈ x.add ∨ (o ∈ l ∧ o.key ∉ x.rm) := by
  intro o ho
  rcases List.mem_append.1 ho with ho | ho
  ·exact .inl ho
  ·obtain ⟨h1, h2⟩ := List.mem_filter.1 ho
   refine .inr ⟨h1, fun hm => ?_⟩
   rw [xkT.2 hm] at h2
   cases h2
 have hshr : ∀ b, Shr E l w x.rm b → ∀ o ∈ l, o.own = true → o.key ∉ x.rm → blkO (E o.key) ≠ some b := by
  intro b hs o ho hown hnr hb
  rcases hs with h1 | ⟨k, hk, h1⟩ | ⟨o2, ho2, hr2, hn2, h1⟩ | ⟨o2, ho2, h1⟩
  ·have := hsz o ho b hb; omega
  ·obtain ⟨o2, ho2, rfl, hown2⟩ := hw.rm k hk
   exact h.inj o ho o2 ho2 hown (fun e => hnr (by rw [e]; exact hk)) b hb h1
  ·exact h.inj o ho o2 ho2 hown (fun e => by
    have := h.uniq o ho o2 ho2 e
    rw [← this, hown] at hr2
    cases hr2) b hb h1
  ·exact h.deep o2 ho2 b h1 o ho hown hb
 have hshx : ∀ y ∈ X, ¬ Shr E l w x.rm y.1 := by
  intro y hy hs
  obtain ⟨p1, p2⟩ := h.prot y hy
  have hyl : y.1 < w.heap.size := (Array.getElem?_eq_some_iff.1 p1).1
  rcases hs with h1 | ⟨k, hk, h1⟩ | ⟨o2, ho2, _, _, h1⟩ | ⟨o2, ho2, h1⟩
  ·omega
  ·obtain ⟨o2, ho2, rfl, hown2⟩ := hw.rm k hk
   exact p2 o2 ho2 h1
  ·exact p2 o2 ho2 h1
  ·exact h.protD y hy o2 ho2 h1
 refine ⟨Blw.chg h.below he.chg ?_, he.env, ?_, ?_, ?_, ?_, ?_, ?_, ?_, ?_, ?_⟩
 ·intro g hg
  obtain ⟨o, ho, hown, _, hb⟩ := hrm g hg
  exact h.high o ho hown g hb
 ·intro o ho
  rcases mem o ho with ho | ⟨ho, hnr⟩
  ·exact he.bodies o ho
  ·exact (hold o ho hnr).2
 ·intro o ho hown b hb
  rcases mem o ho with ho | ⟨ho, hnr⟩
  ·rcases he.own o ho hown b hb with h1 | ⟨k, hk, h1⟩
   ·exact Nat.le_trans h.below.size h1
   ·obtain ⟨o', ho', rfl, hown'⟩ := hw.rm k hk
    exact h.high o' ho' hown' b h1
  ·rw [(hold o ho hnr).1] at hb
   exact h.high o ho hown b hb
 ·intro o ho o' ho' hown hne b hb hb'
  rcases mem o ho with ho | ⟨ho, hnr⟩ <;> rcases mem o' ho' with ho' | ⟨ho', hnr'⟩
  ·exact he.inj o ho o' ho' hown hne b hb hb'
  ·rw [(hold o' ho' hnr').1] at hb'
   rcases he.own o ho hown b hb with h1 | ⟨k, hk, h1⟩
   ·have := hsz o' ho' b hb'; omega
   ·obtain ⟨o2, ho2, rfl, hown2⟩ := hw.rm k hk
    exact h.inj o2 ho2 o' ho' hown2 (fun e => hnr' (by rw [← e]; exact hk)) b h1 hb'
  ·rw [(hold o ho hnr).1] at hb
   have hbs := hsz o ho b hb
   cases hown' : o'.own with
   | true =>
    rcases he.own o' ho' hown' b hb' with h1 | ⟨k, hk, h1⟩
    ·omega
    ·obtain ⟨o2, ho2, rfl, hown2⟩ := hw.rm k hk
     exact h.inj o ho o2 ho2 hown (fun e => hnr (by rw [e]; exact hk)) b hb h1
   | false => exact hshr b (he.ro o' ho' hown' b hb') o ho hown hnr hb
  ·rw [(hold o ho hnr).1] at hb
   rw [(hold o' ho' hnr').1] at hb'
   exact h.inj o ho o' ho' hown hne b hb hb'
 ·intro o ho o' ho' hk
  rcases mem o ho with ho | ⟨ho, hnr⟩ <;> rcases mem o' ho' with ho' | ⟨ho', hnr'⟩
  ·exact hw.uniq o ho o' ho' hk
  ·exfalso
   rcases hw.key o ho with h1 | h1
   ·exact hnr' (by rw [← hk]; exact h1)
   ·have := (hfr o' ho').1; omega
  ·exfalso
   rcases hw.key o' ho' with h1 | h1
   ·exact hnr (by rw [hk]; exact h1)
   ·have := (hfr o ho).1; omega
  ·exact h.uniq o ho o' ho' hk
 ·intro o ho
  rcases mem o ho with ho | ⟨ho, hnr⟩
  ·refine ⟨?_, xa3 (fun k hk => by show k < n'; rcases hk with hk | hk <;> omega) (hw.all o ho)⟩
   rcases hw.key o ho with h1 | h1
   ·obtain ⟨o2, ho2, e, _⟩ := hw.rm _ h1
    have := (h.lt o2 ho2).1
    show o.key < n'
    rw [← e]
    exact Nat.lt_of_lt_of_le this hn
   ·show o.key < n'; omega
  ·exact ⟨Nat.lt_of_lt_of_le (h.lt o ho).1 hn, xa3 (fun k hk => Nat.lt_of_lt_of_le hk hn) (h.lt o ho).2⟩
 ·intro y hy
  obtain ⟨p1, p2⟩ := h.prot y hy
  have hyl : y.1 < w.heap.size := (Array.getElem?_eq_some_iff.1 p1).1
  refine ⟨?_, ?_⟩
  ·rw [he.chg.block y.1 hyl fun hm => ?_]
   ·exact p1
   ·obtain ⟨o, ho, hown, _, hb⟩ := hrm _ hm
    exact p2 o ho hb
  ·intro o ho hb
   rcases mem o ho with ho | ⟨ho, hnr⟩
   ·cases hown : o.own with
    | true =>
     rcases he.own o ho hown _ hb with h1 | ⟨k, hk, h1⟩
     ·omega
     ·obtain ⟨o2, ho2, rfl, hown2⟩ := hw.rm k hk
      exact p2 o2 ho2 h1
    | false => exact hshx y hy (he.ro o ho hown _ hb)
   ·rw [(hold o ho hnr).1] at hb
    exact p2 o ho hb
 ·intro o ho b hi o' ho' hown' hb'
  rcases mem o ho with ho | ⟨ho, hnr⟩ <;> rcases mem o' ho' with ho' | ⟨ho', hnr'⟩
  ·exact he.dq o ho b hi o' ho' hown' hb'
  ·rw [(hold o' ho' hnr').1] at hb'
   exact hshr b (he.dp o ho b hi) o' ho' hown' hnr' hb'
  ·have hi := hinn o ho hnr b hi
   rcases he.own o' ho' hown' b hb' with h1 | ⟨k, hk, h1⟩
   ·have := xod (h.objs o ho) hi; omega
   ·obtain ⟨o2, ho2, rfl, hown2⟩ := hw.rm k hk
    exact h.deep o ho b hi o2 ho2 hown2 h1
  ·rw [(hold o' ho' hnr').1] at hb'
   exact h.deep o ho b (hinn o ho hnr b hi) o' ho' hown' hb'
 ·intro y hy o ho hi
  rcases mem o ho with ho | ⟨ho, hnr⟩
  ·exact hshx y hy (he.dp o ho _ hi)
  ·exact h.protD y hy o ho (hinn o ho hnr _ hi)
 ·intro o ho b hi
  rcases mem o ho with ho | ⟨ho, hnr⟩
  ·rcases he.df o ho b hi with h1 | ⟨k, hk, h1⟩ | ⟨o2, ho2, h1⟩
   ·exact Nat.le_trans h.below.size h1
   ·obtain ⟨o2, ho2, rfl, hown2⟩ := hw.rm k hk
    exact h.high o2 ho2 hown2 b h1
   ·exact h.fsh o2 ho2 b h1
  ·refine h.fsh o ho b ?_
   rcases hi with ⟨h1, h2⟩ | ⟨h1, h2⟩
   ·exact .inl ⟨h1, by rw [← (hold o ho hnr).1]; exact h2⟩
   ·exact .inr ⟨h1, hinn o ho hnr _ h2⟩
theorem xok {d : Nat} {eq : TypeId → AV → AV → Option Bool} (heq : ∀ t x y r, eq t x y = some r → ∀ w, (Op.equalIn d t (x.den E) (y.den E)).run P w = .ok r w) (xs ys : List AV) :
  ∀ (fs : List Field) (r : Bool), eqFields P eq xs ys fs = some r → ∀ w, (Op.eqFields d (AV.denL E xs).toArray (AV.denL E ys).toArray fs).run P w = .ok r w
 | [], r, h, w => by cases h; rfl
 | f :: fs, r, h, w => by
  unfold eqFields at h
  split at h
  ·cases h
  ·rename_i hn
   split at h
   ·rename_i a b ha hb
    split at h
    ·rename_i u v hu hv
     cases h
     have ih := xok heq xs ys fs v hv w
     simp only [Op.eqFields, ne_eq, hn, not_false_eq_true, if_true, Sem.run_bind, xk3 ha, xk3 hb, Result.andThen_ok, heq _ _ _ _ hu]
     cases u
     ·simp
     ·simpa using ih
    ·cases h
   ·cases h
theorem xpI {d : Nat} {eq : TypeId → AV → AV → Option Bool} (heq : ∀ t x y r, eq t x y = some r → ∀ w, (Op.equalIn d t (x.den E) (y.den E)).run P w = .ok r w) (t : TypeId) (c : Nat) (xs ys : List AV) :
  ∀ (is : List Nat) (r : Bool), eqItems P eq t c xs ys is = some r → ∀ w, (Op.eqItems d t c (AV.denL E xs).toArray (AV.denL E ys).toArray is).run P w = .ok r w
 | [], r, h, w => by cases h; rfl
 | i :: is, r, h, w => by
  unfold eqItems at h
  split at h
  ·rename_i a b ha hb
   split at h
   ·rename_i u v hu hv
    cases h
    have ih := xpI heq t c xs ys is v hv w
    simp only [Op.eqItems, Sem.run_bind, xk3 ha, xk3 hb, Result.andThen_ok, heq _ _ _ _ hu]
    cases u
    ·simp
    ·simpa using ih
   ·cases h
  ·cases h
theorem xm5 : ∀ (d : Nat) (t : TypeId) (x y : AV) (r : Bool), eqA P d t x y = some r → ∀ (m : Nat) (w : World), (Op.equalIn (d + m) t (x.den E) (y.den E)).run P w = .ok r w
 | 0, t, x, y, r, h, _, _ => by cases h
 | d + 1, t, x, y, r, h, m, w => by
  have ih : ∀ t x y r, eqA P d t x y = some r → ∀ w, (Op.equalIn (d + m) t (x.den E) (y.den E)).run P w = .ok r w := fun t x y r h w => xm5 d t x y r h m w
  have ed : d + 1 + m = (d + m) + 1 := by omega
  rw [ed]
  unfold eqA at h
  split at h
  ·rename_i hu
   cases h
   simp [AV.den, Op.equalIn, run_underlying hu]
  ·rename_i hu
   split at h
   ·rename_i hk
    subst hk
    cases h
    simp [AV.den, Op.equalIn, run_underlying hu]
   ·cases h
  ·rename_i fs xs ys hu
   split at h
   ·rename_i hs
    have hf : P.fieldsOf t = fs := by simp [Program.fieldsOf, hu]
    simp only [AV.den]
    rw [run_equalIn_struct w (d + m) t _ _ (by rw [hf]; exact hu) hs, hf]
    exact xok ih xs ys fs.toList r h w
   ·cases h
  ·rename_i n te xs ys hu
   split at h
   ·rename_i i hi
    simp only [AV.den]
    rw [run_equalIn_array w (d + m) _ _ hu hi]
    have hc : P.cellsOf te = i.size := by simp [Program.cellsOf, hi]
    rw [hc]
    exact xpI ih te i.size xs ys (List.range n) r h w
   ·cases h
  ·cases h
theorem xvQ {op : Int → Int → Int} {f : Value → Value → Sem Value} (hf : ∀ k a b, f (.int k a) (.int k b) = pure (.int k (op a b))) (k : IntKind) : ∀ (l : List AV) (a : Int) (v : AV), mm op k a l = some v → ∀ w, ((AV.denL E l).foldlM f (.int k a)).run P w = .ok (v.den E) w
 | [], a, v, h, w => by cases h; rfl
 | .int k' b :: r, a, v, h, w => by
  unfold mm at h
  split at h
  ·rename_i hk
   subst hk
   have ih := xvQ hf k r _ v h w
   simpa [AV.denL, AV.den, hf] using ih
  ·cases h
 | .bool _ :: _, _, _, h, _ => by simp [mm] at h
 | .ptr _ _ :: _, _, _, h, _ => by simp [mm] at h
 | .val _ :: _, _, _, h, _ => by simp [mm] at h
 | .fn _ _ _ :: _, _, _, h, _ => by simp [mm] at h
 | .agg _ :: _, _, _, h, _ => by simp [mm] at h
 | .tup _ :: _, _, _, h, _ => by simp [mm] at h
 | .sl _ :: _, _, _, h, _ => by simp [mm] at h
 | .ix _ _ _ _ _ :: _, _, _, h, _ => by simp [mm] at h
 | .vw _ _ _ _ :: _, _, _, h, _ => by simp [mm] at h
 | .yl _ :: _, _, _, h, _ => by simp [mm] at h
theorem xA5 {op : Int → Int → Int} {k : IntKind} : ∀ {l : List AV} {a : Int} {v : AV}, mm op k a l = some v → ∃ n, v = .int k n
 | [], a, v, h => by cases h; exact ⟨_, rfl⟩
 | .int k' b :: r, a, v, h => by
  unfold mm at h
  split at h
  ·exact xA5 h
  ·cases h
 | .bool _ :: _, _, _, h => by simp [mm] at h
 | .ptr _ _ :: _, _, _, h => by simp [mm] at h
 | .val _ :: _, _, _, h => by simp [mm] at h
 | .fn _ _ _ :: _, _, _, h => by simp [mm] at h
 | .agg _ :: _, _, _, h => by simp [mm] at h
 | .tup _ :: _, _, _, h => by simp [mm] at h
 | .sl _ :: _, _, _, h => by simp [mm] at h
 | .ix _ _ _ _ _ :: _, _, _, h => by simp [mm] at h
 | .vw _ _ _ _ :: _, _, _, h => by simp [mm] at h
 | .yl _ :: _, _, _, h => by simp [mm] at h
end
end Go.Sy
