/-
  The executor's operations are sound: rows; what an operation does, said of the model.
-/
import Derived.Test.YtcbgjecpnhjlpaaSyB
set_option linter.unusedVariables false
namespace Go.Sy
open Go.RowKit

theorem addr_add (b off i : Nat) : (⟨b, off, none⟩ : Addr).add i = ⟨b, off + i, none⟩ := by unfold Addr.add; split <;> simp_all
theorem add_add (a : Addr) (m n : Nat) : (a.add m).add n = a.add (m + n) := by
  unfold Addr.add
  by_cases hm : m = 0
  · subst hm; simp
  · by_cases hn : n = 0
    · subst hn; simp
    · have : ¬ (m + n = 0) := by omega
      simp [hm, hn, Nat.add_assoc]

/-! ### rows of plain data -/
theorem elV_length : ∀ (ks : List CK) (j : Nat) (el : List Int), (elV ks j el).length = ks.length
  | [], _, _ => rfl
  | k :: ks, j, el => by simp [elV, elV_length ks (j + 1) el]
theorem elA_length : ∀ (ks : List CK) (j : Nat) (el : List Int), (elA ks j el).length = ks.length
  | [], _, _ => rfl
  | k :: ks, j, el => by simp [elA, elA_length ks (j + 1) el]
theorem cell_den (E : Env) (k : CK) (n : Int) : (k.cell n).den E = k.val n := by cases k <;> rfl
theorem elA_den (E : Env) : ∀ (ks : List CK) (j : Nat) (el : List Int), AV.denL E (elA ks j el) = elV ks j el
  | [], _, _ => rfl
  | k :: ks, j, el => by simp [elA, elV, AV.denL, cell_den, elA_den E ks (j + 1) el]
theorem elA_all (p : Nat → Prop) : ∀ (ks : List CK) (j : Nat) (el : List Int), AV.allL p (elA ks j el)
  | [], _, _ => trivial
  | k :: ks, j, el => ⟨by cases k <;> trivial, elA_all p ks (j + 1) el⟩
theorem elV_get : ∀ (ks : List CK) (j : Nat) (el : List Int) (i : Nat), (elV ks j el)[i]? = (ks[i]?).map fun k => k.val (el.getD (j + i) 0)
  | [], _, _, _ => by simp [elV]
  | k :: ks, j, el, 0 => by simp [elV]
  | k :: ks, j, el, i + 1 => by simp [elV, elV_get ks (j + 1) el i, Nat.add_comm, Nat.add_left_comm]
theorem elV_one : ∀ (ks : List CK) (j : Nat) (el : List Int), ∀ u ∈ elV ks j el, u.oneCell' = true
  | [], _, _, u, h => by simp [elV] at h
  | k :: ks, j, el, u, h => by
    rcases List.mem_cons.1 h with rfl | h
    · cases k <;> rfl
    · exact elV_one ks (j + 1) el u h
theorem rowV_length (ks : List CK) : ∀ l : List (List Int), (rowV ks l).length = l.length * ks.length
  | [] => by simp [rowV]
  | a :: r => by
    have := rowV_length ks r
    simp only [rowV, List.flatMap_cons, List.length_append, elV_length, List.length_cons] at *
    rw [this, Nat.add_mul, Nat.one_mul, Nat.add_comm]
theorem rowV_append (ks : List CK) (l l' : List (List Int)) : rowV ks (l ++ l') = rowV ks l ++ rowV ks l' := by simp [rowV]
theorem rowV_one (ks : List CK) (l : List (List Int)) : ∀ u ∈ rowV ks l, u.oneCell' = true := by
  intro u h
  simp only [rowV, List.mem_flatMap] at h
  obtain ⟨el, _, h⟩ := h
  exact elV_one ks 0 el u h
theorem rowV_get (ks : List CK) : ∀ (l : List (List Int)) (i j : Nat), j < ks.length → i < l.length → (rowV ks l)[i * ks.length + j]? = (elV ks 0 (l.getD i []))[j]?
  | [], i, j, _, h => by simp at h
  | a :: r, 0, j, hj, _ => by
    simp only [rowV, List.flatMap_cons, Nat.zero_mul, Nat.zero_add]
    rw [List.getElem?_append_left (by rw [elV_length]; exact hj)]
    simp
  | a :: r, i + 1, j, hj, h => by
    have := rowV_get ks r i j hj (by simpa using h)
    simp only [rowV, List.flatMap_cons] at *
    rw [List.getElem?_append_right (by rw [elV_length, Nat.add_mul, Nat.one_mul]; omega), elV_length]
    rw [show (i + 1) * ks.length + j - ks.length = i * ks.length + j from by rw [Nat.add_mul, Nat.one_mul]; omega, this]
    simp
theorem code_val (E : Env) {k : CK} {v : AV} {n : Int} (h : codeC k v = some n) : v.den E = k.val n := by
  unfold codeC at h
  split at h
  · split at h
    · rename_i hk; cases h; subst hk; rfl
    · cases h
  · split at h
    · rename_i hk; cases h; subst hk; rfl
    · cases h
  · cases h; rename_i b; cases b <;> rfl
  · cases h; rename_i b; cases b <;> rfl
  · cases h
theorem code_all {k : CK} {v : AV} {n : Int} (h : codeC k v = some n) (p : Nat → Prop) : AV.all p v := by
  unfold codeC at h
  split at h <;> first | trivial | cases h
theorem codeL_den (E : Env) : ∀ {ks : List CK} {vs : List AV} {ns : List Int} (pre : List Int), codeL ks vs = some ns → AV.denL E vs = elV ks pre.length (pre ++ ns)
  | [], [], ns, pre, h => by cases h; rfl
  | k :: ks, v :: vs, ns, pre, h => by
    unfold codeL at h
    split at h
    · rename_i n ms h1 h2
      cases h
      have ih := codeL_den E (pre ++ [n]) h2
      simp only [AV.denL, elV, code_val E h1]
      congr 1
      · congr 1; simp
      · rw [ih]; simp
    · cases h
  | [], _ :: _, _, _, h => by cases h
  | _ :: _, [], _, _, h => by cases h
theorem codeL_len : ∀ {ks : List CK} {vs : List AV} {ns : List Int}, codeL ks vs = some ns → vs.length = ks.length ∧ ns.length = ks.length
  | [], [], ns, h => by cases h; exact ⟨rfl, rfl⟩
  | k :: ks, v :: vs, ns, h => by
    unfold codeL at h
    split at h
    · rename_i n ms h1 h2
      cases h
      have := codeL_len h2
      simp [this.1, this.2]
    · cases h
  | [], _ :: _, _, h => by cases h
  | _ :: _, [], _, h => by cases h
theorem codeR_den (E : Env) : ∀ {ks : List CK} {els : List (List AV)} {l : List (List Int)}, codeR ks els = some l → AV.denL E els.flatten = rowV ks l ∧ l.length = els.length
  | ks, [], l, h => by cases h; exact ⟨rfl, rfl⟩
  | ks, el :: els, l, h => by
    unfold codeR at h
    split at h
    · rename_i n ms h1 h2
      cases h
      obtain ⟨e1, e2⟩ := codeR_den E h2
      have e3 := codeL_den E [] h1
      simp only [List.length_nil, List.nil_append] at e3
      refine ⟨?_, by simp [e2]⟩
      rw [List.flatten_cons, denL_map, List.map_append, ← denL_map, ← denL_map, e1, e3]
      simp [rowV]
    · cases h
theorem setEl_length (sz : Nat) (el : List Int) (off : Nat) (ns : List Int) : (setEl sz el off ns).length = sz := by simp [setEl]
theorem setEl_get (sz : Nat) (el : List Int) (off : Nat) (ns : List Int) (j : Nat) (h : j < sz) : (setEl sz el off ns).getD j 0 = if off ≤ j ∧ j < off + ns.length then ns.getD (j - off) 0 else el.getD j 0 := by
  simp [setEl, List.getD_eq_getElem?_getD, List.getElem?_map, List.getElem?_range, h]

/-- A row with one element's part written. -/
theorem rowV_set {ks : List CK} {l : List (List Int)} {i off : Nat} {ns : List Int} (hi : i < l.length) (ho : off + ns.length ≤ ks.length) {vs : List Value} (hvs : vs = elV ((ks.drop off).take ns.length) 0 ns) :
    rowV ks (l.set i (setEl ks.length (l.getD i []) off ns)) = (rowV ks l).take (i * ks.length + off) ++ vs ++ (rowV ks l).drop (i * ks.length + off + vs.length) := by
  have hvl : vs.length = ns.length := by rw [hvs, elV_length]; simp; omega
  have hpos : ks.length = 0 ∨ 0 < ks.length := by omega
  have hil : (i + 1) * ks.length ≤ l.length * ks.length := Nat.mul_le_mul_right _ hi
  have hil2 : (i + 1) * ks.length = i * ks.length + ks.length := by rw [Nat.add_mul, Nat.one_mul]
  apply List.ext_getElem?
  intro k
  by_cases hk : k < l.length * ks.length
  · have hz : 0 < ks.length := by
      rcases hpos with h | h
      · rw [h, Nat.mul_zero] at hk; omega
      · exact h
    have hk1 : k / ks.length < l.length := (Nat.div_lt_iff_lt_mul hz).2 hk
    have hk2 : k % ks.length < ks.length := Nat.mod_lt _ hz
    have hk3 : k = k / ks.length * ks.length + k % ks.length := by rw [Nat.mul_comm]; exact (Nat.div_add_mod k ks.length).symm
    have lhs := rowV_get ks (l.set i (setEl ks.length (l.getD i []) off ns)) (k / ks.length) (k % ks.length) hk2 (by simpa using hk1)
    have rhs := rowV_get ks l (k / ks.length) (k % ks.length) hk2 hk1
    rw [← hk3] at lhs rhs
    rw [lhs]
    have hlen : (rowV ks l).length = l.length * ks.length := rowV_length ks l
    by_cases hki : k / ks.length = i
    · rw [hki] at rhs lhs ⊢
      have hgd : (l.set i (setEl ks.length (l.getD i []) off ns)).getD i [] = setEl ks.length (l.getD i []) off ns := by
        rw [List.getD_eq_getElem?_getD, List.getElem?_set_self hi]; rfl
      rw [hgd, elV_get]
      have hkk : k = i * ks.length + k % ks.length := by rw [← hki]; exact hk3
      simp only [Nat.zero_add]
      rw [setEl_get _ _ _ _ _ hk2]
      by_cases hin : off ≤ k % ks.length ∧ k % ks.length < off + ns.length
      · rw [if_pos hin]
        rw [List.append_assoc, List.getElem?_append_right (by simp; omega), List.getElem?_append_left (by simp; omega)]
        simp only [List.length_take, hlen]
        rw [show k - min (i * ks.length + off) (l.length * ks.length) = k % ks.length - off from by omega]
        rw [hvs, elV_get]
        rw [List.getElem?_take, if_pos (by omega), List.getElem?_drop, Nat.zero_add]
        rw [show off + (k % ks.length - off) = k % ks.length from by omega]
      · rw [if_neg hin]
        rw [elV_get] at rhs
        simp only [Nat.zero_add] at rhs
        rw [← rhs]
        by_cases hlo : k % ks.length < off
        · rw [List.append_assoc, List.getElem?_append_left (by simp; omega), List.getElem?_take, if_pos (by omega)]
        · rw [List.getElem?_append_right (by simp; omega), List.getElem?_drop]
          congr 1
          simp [hlen]
          omega
    · have hgd : (l.set i (setEl ks.length (l.getD i []) off ns)).getD (k / ks.length) [] = l.getD (k / ks.length) [] := by
        rw [List.getD_eq_getElem?_getD, List.getElem?_set_ne (fun e => hki e.symm), ← List.getD_eq_getElem?_getD]
      rw [hgd, ← rhs]
      by_cases hlo : k / ks.length < i
      · have : (k / ks.length + 1) * ks.length ≤ i * ks.length := Nat.mul_le_mul_right _ hlo
        rw [Nat.add_mul, Nat.one_mul] at this
        rw [List.append_assoc, List.getElem?_append_left (by simp; omega), List.getElem?_take, if_pos (by omega)]
      · have : (i + 1) * ks.length ≤ k / ks.length * ks.length := Nat.mul_le_mul_right _ (by omega)
        rw [List.getElem?_append_right (by simp; omega), List.getElem?_drop]
        congr 1
        simp [hlen]
        omega
  · have h1 : (rowV ks (l.set i (setEl ks.length (l.getD i []) off ns)))[k]? = none := List.getElem?_eq_none (by rw [rowV_length]; simp; omega)
    rw [h1]
    symm
    apply List.getElem?_eq_none
    simp [rowV_length]
    omega

section
variable {P : Program} {E : Env} {w0 w : World} {H : Heap} {ρ : Operand → Option AV} {e : Operand → Value}

theorem rowOf_row {b : Body} {e : TypeId} {ks : List CK} {l : List (List Int)} (h : rowOf P b = some (e, ks, l)) {key : Nat} {own : Bool} (hb : BodyOk E w key own b) : RowOk w own e ks.length (E key) l.length (rowV ks l) := by
  cases b with
  | row e' ks' l' => cases h; exact hb
  | arr e' sz els =>
    simp only [rowOf] at h
    cases hk : kinds P 9 e' with
    | none => rw [hk] at h; cases h
    | some ks' =>
      rw [hk] at h
      simp only [] at h
      split at h
      · rename_i hl
        cases hc : codeR ks' els with
        | none => rw [hc] at h; cases h
        | some l' =>
          rw [hc] at h
          cases h
          obtain ⟨e1, e2⟩ := codeR_den E hc
          obtain ⟨h1, _, _⟩ := hb
          rw [e1, ← e2, ← hl] at h1
          exact h1
      · cases h
  | cells => cases h
  | nil => cases h
  | mp => cases h
  | fin => cases h
  | loop => cases h

/-- A load out of cells that are known. -/
theorem run_load_addr {t : TypeId} {cs : List AV} {a0 : Addr} {off : Nat} {v : AV} (hc : ∀ j u, (AV.denL E cs)[j]? = some u → w.cell? (a0.add j) = some u) (h : partA P t cs off = some v) :
    (loadVar t (a0.add off)).run P w = .ok (v.den E) w := by
  unfold partA at h
  split at h
  · rename_i n ha hs
    split at h
    · rename_i hl
      cases h
      have hlen : ((AV.denL E cs).drop off |>.take n).length = n := by simp [denL_map]; omega
      have hr := run_loadCells_list (P := P) w (a0.add off) ((AV.denL E cs).drop off |>.take n) (fun j u hj => by
        rw [add_add]
        simp only [List.getElem?_take, List.getElem?_drop] at hj
        split at hj
        · exact hc _ _ hj
        · cases hj)
      rw [hlen] at hr
      simp only [loadVar, Sem.run_bind, run_isAggA ha, Result.andThen_ok, if_true, run_sizeA hs, hr]
      simp [AV.den, denL_map, List.map_drop, List.map_take]
    · cases h
  · rename_i n ha hs
    have hc := hc off (v.den E) (by simp [denL_map, h])
    simp [loadVar, run_isAggA ha, hc, run_load]
  · cases h

/-! ### what an operation does -/
structure EffOk (E : Env) (objs : List Obj) (w : World) (K : Nat) (x : Eff) (E' : Env) (w' : World) : Prop where
  agree : ∀ k, (k < K ∨ K + x.nk ≤ k) → E' k = E k
  env : ∀ k, (E' k).oneCell' = true
  chg : Chg w w' (x.rm.filterMap fun k => blkO (E k))
  bodies : ∀ o ∈ x.add, BodyOk E' w' o.key o.own o.body
  own : ∀ o ∈ x.add, o.own = true → ∀ b, blkO (E' o.key) = some b → w.heap.size ≤ b ∨ ∃ k ∈ x.rm, blkO (E k) = some b
  ro : ∀ o ∈ x.add, o.own = false → ∀ b, blkO (E' o.key) = some b → w.heap.size ≤ b ∨ (∃ k ∈ x.rm, blkO (E k) = some b) ∨ ∃ o' ∈ objs, o'.own = false ∧ o'.key ∉ x.rm ∧ blkO (E o'.key) = some b
  inj : ∀ o ∈ x.add, ∀ o' ∈ x.add, o.own = true → o.key ≠ o'.key → ∀ b, blkO (E' o.key) = some b → blkO (E' o'.key) ≠ some b
structure EffWf (n : Nat) (objs : List Obj) (K : Nat) (x : Eff) : Prop where
  rm : ∀ k ∈ x.rm, ∃ o ∈ objs, o.key = k ∧ o.own = true
  key : ∀ o ∈ x.add, o.key ∈ x.rm ∨ (K ≤ o.key ∧ o.key < K + x.nk)
  uniq : ∀ o ∈ x.add, ∀ o' ∈ x.add, o.key = o'.key → o = o'
  all : ∀ o ∈ x.add, BodyAll (fun k => k < n ∨ k < K + x.nk) o.body
  val : AV.all (fun k => k < n ∨ k < K + x.nk) x.v
  ver : ∀ o ∈ x.add, K ≤ o.ver
/-- What one operation does, said of the model. -/
def OpOk (P : Program) (E : Env) (objs : List Obj) (w : World) (K : Nat) (e : Operand → Value) (o : Oper) (x : Eff) : Prop :=
  x.holds → ∃ E' w' nx, (execOp e o).run P w = .ok nx w' ∧ (nx = .value (x.v.den E') ∨ (nx = .skip ∧ x.v.den E' = undef)) ∧ EffOk E objs w K x E' w'

theorem effOk_pure {objs : List Obj} {K : Nat} (hE : ∀ k, (E k).oneCell' = true) (p : Option Prop) (v : AV) : EffOk E objs w K ⟨p, [], 0, [], v⟩ E w :=
  ⟨fun _ _ => rfl, hE, Chg.refl _ _, by simp, by simp, by simp, by simp⟩
theorem effWf_pure {n K : Nat} {objs : List Obj} (p : Option Prop) {v : AV} (h : AV.all (fun k => k < n ∨ k < K + 0) v) : EffWf n objs K ⟨p, [], 0, [], v⟩ :=
  ⟨by simp, by simp, by simp, by simp, h, by simp⟩

/-- The heap behind an operation; the keys from K on are the operation's. -/
theorem HeapOk.effAt {X : List (Nat × Go.Obj)} {l : List Obj} {n K : Nat} {x : Eff} {E' : Env} {w' : World} (h : HeapOk X E w0 ⟨l, n⟩ w) (hw : EffWf n l K x) (he : EffOk E l w K x E' w')
    (hfr : ∀ o ∈ l, (o.key < K ∨ K + x.nk ≤ o.key) ∧ BodyAll (fun k => k < K ∨ K + x.nk ≤ k) o.body) {n' : Nat} (hn : n ≤ n') (hn2 : K + x.nk ≤ n') : HeapOk X E' w0 ⟨effObjs x l, n'⟩ w' := by
  have hrm : ∀ g ∈ (x.rm.filterMap fun k => blkO (E k)), ∃ o ∈ l, o.own = true ∧ o.key ∈ x.rm ∧ blkO (E o.key) = some g := by
    intro g hg
    obtain ⟨k, hk, hb⟩ := List.mem_filterMap.1 hg
    obtain ⟨o, ho, rfl, hown⟩ := hw.rm k hk
    exact ⟨o, ho, hown, hk, hb⟩
  have hold : ∀ o ∈ l, o.key ∉ x.rm → E' o.key = E o.key ∧ BodyOk E' w' o.key o.own o.body := by
    intro o ho hnr
    obtain ⟨f1, f2⟩ := hfr o ho
    refine ⟨he.agree _ f1, (h.objs o ho).keep (he.agree _ f1) (bodyAll_imp (fun k hk => he.agree k hk) f2) ?_ he.chg.size⟩
    intro g hg
    have hlt : g < w.heap.size := by
      have hb := h.objs o ho
      generalize o.body = b at hb
      cases b with
      | cells cs => obtain ⟨g', T, h1, h2⟩ := hb; rw [h1] at hg; cases hg; exact (Array.getElem?_eq_some_iff.1 h2).1
      | row e ks l => exact hb.reads.blk g hg
      | arr e sz els => exact hb.1.reads.blk g hg
      | nil => have hb : E o.key = _ := hb; rw [hb] at hg; cases hg
      | mp kt et q m ke l => obtain ⟨g', es, clock, h1, h2, _⟩ := hb; rw [h1] at hg; cases hg; exact (Array.getElem?_eq_some_iff.1 h2).1
      | fin st pend => obtain ⟨g', r, h1, h2, _⟩ := hb; rw [h1] at hg; cases hg; exact (Array.getElem?_eq_some_iff.1 h2).1
      | loop st pend N tm params assign body => obtain ⟨g', fn, tmps, dfr, h1, h2, _⟩ := hb; rw [h1] at hg; cases hg; exact (Array.getElem?_eq_some_iff.1 h2).1
    refine he.chg.block g hlt fun hm => ?_
    obtain ⟨o', ho', hown', hk', hb'⟩ := hrm g hm
    exact h.inj o' ho' o ho hown' (fun e => hnr (by rw [← e]; exact hk')) g hb' hg
  have mem : ∀ o, o ∈ effObjs x l → o ∈ x.add ∨ (o ∈ l ∧ o.key ∉ x.rm) := by
    intro o ho
    rcases List.mem_append.1 ho with ho | ho
    · exact .inl ho
    · obtain ⟨h1, h2⟩ := List.mem_filter.1 ho
      refine .inr ⟨h1, fun hm => ?_⟩
      rw [any_beq.2 hm] at h2
      cases h2
  have hsz : ∀ o ∈ l, ∀ b, blkO (E o.key) = some b → b < w.heap.size := by
    intro o ho b hg
    have hb := h.objs o ho
    generalize o.body = b' at hb
    cases b' with
    | cells cs => obtain ⟨g', T, h1, h2⟩ := hb; rw [h1] at hg; cases hg; exact (Array.getElem?_eq_some_iff.1 h2).1
    | row e ks l => exact hb.reads.blk b hg
    | arr e sz els => exact hb.1.reads.blk b hg
    | nil => have hb : E o.key = _ := hb; rw [hb] at hg; cases hg
    | mp kt et q m ke l => obtain ⟨g', es, clock, h1, h2, _⟩ := hb; rw [h1] at hg; cases hg; exact (Array.getElem?_eq_some_iff.1 h2).1
    | fin st pend => obtain ⟨g', r, h1, h2, _⟩ := hb; rw [h1] at hg; cases hg; exact (Array.getElem?_eq_some_iff.1 h2).1
    | loop st pend N tm params assign body => obtain ⟨g', fn, tmps, dfr, h1, h2, _⟩ := hb; rw [h1] at hg; cases hg; exact (Array.getElem?_eq_some_iff.1 h2).1
  refine ⟨Blw.chg h.below he.chg ?_, he.env, ?_, ?_, ?_, ?_, ?_, ?_⟩
  · intro g hg
    obtain ⟨o, ho, hown, _, hb⟩ := hrm g hg
    exact h.high o ho hown g hb
  · intro o ho
    rcases mem o ho with ho | ⟨ho, hnr⟩
    · exact he.bodies o ho
    · exact (hold o ho hnr).2
  · intro o ho hown b hb
    rcases mem o ho with ho | ⟨ho, hnr⟩
    · rcases he.own o ho hown b hb with h1 | ⟨k, hk, h1⟩
      · exact Nat.le_trans h.below.size h1
      · obtain ⟨o', ho', rfl, hown'⟩ := hw.rm k hk
        exact h.high o' ho' hown' b h1
    · rw [(hold o ho hnr).1] at hb
      exact h.high o ho hown b hb
  · intro o ho o' ho' hown hne b hb hb'
    rcases mem o ho with ho | ⟨ho, hnr⟩ <;> rcases mem o' ho' with ho' | ⟨ho', hnr'⟩
    · exact he.inj o ho o' ho' hown hne b hb hb'
    · rw [(hold o' ho' hnr').1] at hb'
      rcases he.own o ho hown b hb with h1 | ⟨k, hk, h1⟩
      · have := hsz o' ho' b hb'; omega
      · obtain ⟨o2, ho2, rfl, hown2⟩ := hw.rm k hk
        exact h.inj o2 ho2 o' ho' hown2 (fun e => hnr' (by rw [← e]; exact hk)) b h1 hb'
    · rw [(hold o ho hnr).1] at hb
      have hbs := hsz o ho b hb
      cases hown' : o'.own with
      | true =>
        rcases he.own o' ho' hown' b hb' with h1 | ⟨k, hk, h1⟩
        · omega
        · obtain ⟨o2, ho2, rfl, hown2⟩ := hw.rm k hk
          exact h.inj o ho o2 ho2 hown (fun e => hnr (by rw [e]; exact hk)) b hb h1
      | false =>
        rcases he.ro o' ho' hown' b hb' with h1 | ⟨k, hk, h1⟩ | ⟨o2, ho2, hr2, hn2, h1⟩
        · omega
        · obtain ⟨o2, ho2, rfl, hown2⟩ := hw.rm k hk
          exact h.inj o ho o2 ho2 hown (fun e => hnr (by rw [e]; exact hk)) b hb h1
        · exact h.inj o ho o2 ho2 hown (fun e => by
            have := h.uniq o ho o2 ho2 e
            rw [← this, hown] at hr2
            cases hr2) b hb h1
    · rw [(hold o ho hnr).1] at hb
      rw [(hold o' ho' hnr').1] at hb'
      exact h.inj o ho o' ho' hown hne b hb hb'
  · intro o ho o' ho' hk
    rcases mem o ho with ho | ⟨ho, hnr⟩ <;> rcases mem o' ho' with ho' | ⟨ho', hnr'⟩
    · exact hw.uniq o ho o' ho' hk
    · exfalso
      rcases hw.key o ho with h1 | h1
      · exact hnr' (by rw [← hk]; exact h1)
      · have := (hfr o' ho').1; omega
    · exfalso
      rcases hw.key o' ho' with h1 | h1
      · exact hnr (by rw [hk]; exact h1)
      · have := (hfr o ho).1; omega
    · exact h.uniq o ho o' ho' hk
  · intro o ho
    rcases mem o ho with ho | ⟨ho, hnr⟩
    · refine ⟨?_, bodyAll_imp (fun k hk => by show k < n'; rcases hk with hk | hk <;> omega) (hw.all o ho)⟩
      rcases hw.key o ho with h1 | h1
      · obtain ⟨o2, ho2, e, _⟩ := hw.rm _ h1
        have := (h.lt o2 ho2).1
        show o.key < n'
        rw [← e]
        exact Nat.lt_of_lt_of_le this hn
      · show o.key < n'; omega
    · exact ⟨Nat.lt_of_lt_of_le (h.lt o ho).1 hn, bodyAll_imp (fun k hk => Nat.lt_of_lt_of_le hk hn) (h.lt o ho).2⟩
  · intro y hy
    obtain ⟨p1, p2⟩ := h.prot y hy
    have hyl : y.1 < w.heap.size := (Array.getElem?_eq_some_iff.1 p1).1
    refine ⟨?_, ?_⟩
    · rw [he.chg.block y.1 hyl fun hm => ?_]
      · exact p1
      · obtain ⟨o, ho, hown, _, hb⟩ := hrm _ hm
        exact p2 o ho hb
    · intro o ho hb
      rcases mem o ho with ho | ⟨ho, hnr⟩
      · cases hown : o.own with
        | true =>
          rcases he.own o ho hown _ hb with h1 | ⟨k, hk, h1⟩
          · omega
          · obtain ⟨o2, ho2, rfl, hown2⟩ := hw.rm k hk
            exact p2 o2 ho2 h1
        | false =>
          rcases he.ro o ho hown _ hb with h1 | ⟨k, hk, h1⟩ | ⟨o2, ho2, _, _, h1⟩
          · omega
          · obtain ⟨o2, ho2, rfl, hown2⟩ := hw.rm k hk
            exact p2 o2 ho2 h1
          · exact p2 o2 ho2 h1
      · rw [(hold o ho hnr).1] at hb
        exact p2 o ho hb

theorem eqFields_sound {d : Nat} {eq : TypeId → AV → AV → Option Bool} (heq : ∀ t x y r, eq t x y = some r → ∀ w, (Op.equalIn d t (x.den E) (y.den E)).run P w = .ok r w) (xs ys : List AV) :
    ∀ (fs : List Field) (r : Bool), eqFields P eq xs ys fs = some r → ∀ w, (Op.eqFields d (AV.denL E xs).toArray (AV.denL E ys).toArray fs).run P w = .ok r w
  | [], r, h, w => by cases h; rfl
  | f :: fs, r, h, w => by
    unfold eqFields at h
    split at h
    · cases h
    · rename_i hn
      split at h
      · rename_i a b ha hb
        split at h
        · rename_i u v hu hv
          cases h
          have ih := eqFields_sound heq xs ys fs v hv w
          simp only [Op.eqFields, ne_eq, hn, not_false_eq_true, if_true, Sem.run_bind, run_partA ha, run_partA hb, Result.andThen_ok, heq _ _ _ _ hu]
          cases u
          · simp
          · simpa using ih
        · cases h
      · cases h
theorem eqItems_sound {d : Nat} {eq : TypeId → AV → AV → Option Bool} (heq : ∀ t x y r, eq t x y = some r → ∀ w, (Op.equalIn d t (x.den E) (y.den E)).run P w = .ok r w) (t : TypeId) (c : Nat) (xs ys : List AV) :
    ∀ (is : List Nat) (r : Bool), eqItems P eq t c xs ys is = some r → ∀ w, (Op.eqItems d t c (AV.denL E xs).toArray (AV.denL E ys).toArray is).run P w = .ok r w
  | [], r, h, w => by cases h; rfl
  | i :: is, r, h, w => by
    unfold eqItems at h
    split at h
    · rename_i a b ha hb
      split at h
      · rename_i u v hu hv
        cases h
        have ih := eqItems_sound heq t c xs ys is v hv w
        simp only [Op.eqItems, Sem.run_bind, run_partA ha, run_partA hb, Result.andThen_ok, heq _ _ _ _ hu]
        cases u
        · simp
        · simpa using ih
      · cases h
    · cases h
theorem eqA_sound : ∀ (d : Nat) (t : TypeId) (x y : AV) (r : Bool), eqA P d t x y = some r → ∀ (m : Nat) (w : World), (Op.equalIn (d + m) t (x.den E) (y.den E)).run P w = .ok r w
  | 0, t, x, y, r, h, _, _ => by cases h
  | d + 1, t, x, y, r, h, m, w => by
    have ih : ∀ t x y r, eqA P d t x y = some r → ∀ w, (Op.equalIn (d + m) t (x.den E) (y.den E)).run P w = .ok r w := fun t x y r h w => eqA_sound d t x y r h m w
    have ed : d + 1 + m = (d + m) + 1 := by omega
    rw [ed]
    unfold eqA at h
    split at h
    · rename_i hu
      cases h
      simp [AV.den, Op.equalIn, run_underlying hu]
    · rename_i hu
      split at h
      · rename_i hk
        subst hk
        cases h
        simp [AV.den, Op.equalIn, run_underlying hu]
      · cases h
    · rename_i fs xs ys hu
      split at h
      · rename_i hs
        have hf : P.fieldsOf t = fs := by simp [Program.fieldsOf, hu]
        simp only [AV.den]
        rw [run_equalIn_struct w (d + m) t _ _ (by rw [hf]; exact hu) hs, hf]
        exact eqFields_sound ih xs ys fs.toList r h w
      · cases h
    · rename_i n te xs ys hu
      split at h
      · rename_i i hi
        simp only [AV.den]
        rw [run_equalIn_array w (d + m) _ _ hu hi]
        have hc : P.cellsOf te = i.size := by simp [Program.cellsOf, hi]
        rw [hc]
        exact eqItems_sound ih te i.size xs ys (List.range n) r h w
      · cases h
    · cases h

theorem mm_sound {op : Int → Int → Int} {f : Value → Value → Sem Value} (hf : ∀ k a b, f (.int k a) (.int k b) = pure (.int k (op a b))) (k : IntKind) : ∀ (l : List AV) (a : Int) (v : AV), mm op k a l = some v → ∀ w, ((AV.denL E l).foldlM f (.int k a)).run P w = .ok (v.den E) w
  | [], a, v, h, w => by cases h; rfl
  | .int k' b :: r, a, v, h, w => by
    unfold mm at h
    split at h
    · rename_i hk
      subst hk
      have ih := mm_sound hf k r _ v h w
      simpa [AV.denL, AV.den, hf] using ih
    · cases h
  | .bool _ :: _, _, _, h, _ => by simp [mm] at h
  | .ptr _ _ :: _, _, _, h, _ => by simp [mm] at h
  | .val _ :: _, _, _, h, _ => by simp [mm] at h
  | .fn _ _ _ :: _, _, _, h, _ => by simp [mm] at h
  | .agg _ :: _, _, _, h, _ => by simp [mm] at h
  | .tup _ :: _, _, _, h, _ => by simp [mm] at h
  | .sl _ :: _, _, _, h, _ => by simp [mm] at h
  | .ix _ _ _ _ _ :: _, _, _, h, _ => by simp [mm] at h
  | .vw _ _ _ _ :: _, _, _, h, _ => by simp [mm] at h
  | .yl _ :: _, _, _, h, _ => by simp [mm] at h
theorem mm_int {op : Int → Int → Int} {k : IntKind} : ∀ {l : List AV} {a : Int} {v : AV}, mm op k a l = some v → ∃ n, v = .int k n
  | [], a, v, h => by cases h; exact ⟨_, rfl⟩
  | .int k' b :: r, a, v, h => by
    unfold mm at h
    split at h
    · exact mm_int h
    · cases h
  | .bool _ :: _, _, _, h => by simp [mm] at h
  | .ptr _ _ :: _, _, _, h => by simp [mm] at h
  | .val _ :: _, _, _, h => by simp [mm] at h
  | .fn _ _ _ :: _, _, _, h => by simp [mm] at h
  | .agg _ :: _, _, _, h => by simp [mm] at h
  | .tup _ :: _, _, _, h => by simp [mm] at h
  | .sl _ :: _, _, _, h => by simp [mm] at h
  | .ix _ _ _ _ _ :: _, _, _, h => by simp [mm] at h
  | .vw _ _ _ _ :: _, _, _, h => by simp [mm] at h
  | .yl _ :: _, _, _, h => by simp [mm] at h

end
end Go.Sy
