/-
  The executor's operations are sound: the theorem for one operation (no call of a Go function).
-/
import Derived.Test.YtcbgjecpnhjlpaaSyS
import Derived.Test.YtcbgjecpnhjlpaaSyI2
set_option linter.unusedVariables false
namespace Go.Sy
open Go.RowKit
section
variable {P : Program} {X : List (Nat × Go.Obj)} {E : Env} {w0 w : World} {objs : List Obj} {n K : Nat} {ρ : Operand → Option AV} {e : Operand → Value}

theorem effOk_app (hE : ∀ k, (E k).oneCell' = true) {rm : List Nat} {v v' : Value} {w' : World} {b : Body} {p : Option Prop} (hrm : (rm = [] ∧ blkO v = none) ∨ ∃ key, rm = [key] ∧ v = E key) (h1 : v'.oneCell' = true)
    (hb : BodyOk (fun k => if k = K then v' else E k) w' K true b) (hc : Chg w w' (blkO v).toList) (hblk : ∀ g, blkO v' = some g → w.heap.size ≤ g ∨ blkO v = some g) : EffOk E objs w K ⟨p, rm, 1, [⟨K, K, true, b⟩], .sl K⟩ (fun k => if k = K then v' else E k) w' := by
  refine ⟨fun k hk => if_neg (by simp at hk; omega), fun k => ?_, ?_, ?_, ?_, ?_, ?_⟩
  · by_cases hk : k = K
    · simp [hk, h1]
    · simp [hk, hE k]
  · rcases hrm with ⟨rfl, h0⟩ | ⟨key, rfl, rfl⟩
    · rw [h0] at hc; exact hc
    · cases hg : blkO (E key) with
      | none => rw [hg] at hc; simpa [hg] using hc
      | some g => rw [hg] at hc; simpa [hg] using hc
  · intro o ho; simp at ho; subst ho; exact hb
  · intro o ho _ g hg; simp at ho; subst ho; simp at hg
    rcases hblk g hg with h | h
    · exact .inl h
    · rcases hrm with ⟨rfl, h0⟩ | ⟨key, rfl, rfl⟩
      · rw [h0] at h; cases h
      · exact .inr ⟨key, by simp, h⟩
  · intro o ho hf; simp at ho; subst ho; cases hf
  · intro o ho o' ho' _ hne; simp at ho ho'; subst ho; subst ho'; exact absurd rfl hne
theorem effWf_app {rm : List Nat} {b : Body} {p : Option Prop} (hrm : ∀ k ∈ rm, ∃ o ∈ objs, o.key = k ∧ o.own = true) (hb : BodyAll (fun k => k < n) b) : EffWf n objs K ⟨p, rm, 1, [⟨K, K, true, b⟩], .sl K⟩ := by
  refine ⟨hrm, ?_, ?_, ?_, Or.inr (Nat.lt_succ_self _), ?_⟩
  · intro o ho; simp at ho; subst ho; exact .inr ⟨Nat.le_refl _, Nat.lt_succ_self _⟩
  · intro o ho o' ho' _; simp at ho ho'; subst ho; subst ho'; rfl
  · intro o ho; simp at ho; subst ho; exact bodyAll_imp (fun k hk => .inl hk) hb
  · intro o ho; simp at ho; subst ho; exact Nat.le_refl _

theorem arr_one {els : List (List AV)} (hE : ∀ k, (E k).oneCell' = true) (h : els.flatten.all AV.scalar = true) : ∀ u ∈ AV.denL E els.flatten, u.oneCell' = true := by
  intro u hu
  rw [denL_map] at hu
  obtain ⟨c, hc, rfl⟩ := List.mem_map.1 hu
  exact scalar_one (List.all_eq_true.1 h c hc) hE

/-- What appending needs of the two sides. -/
theorem append_core (hH : HeapOk X E w0 ⟨objs, n⟩ w) {t ty te : TypeId} {ie : TypeInfo} (ht : P.underlying t = some (.slice te)) (hi : P.info? te = some ie) {b2 : Body} (hok : appOk te ie b2 = true)
    {v v2 : Value} {own2 : Bool} {m m2 sz : Nat} {vs ws : List Value} {e1 e2 : TypeId} (hsz : sz = ie.size) (he1 : e1 = te) (ho : OwnRow w e1 sz v m vs) (hl : vs.length = m * sz) (hs : RowOk w own2 e2 sz v2 m2 ws) (h1 : ∀ u ∈ ws, u.oneCell' = true) (hf : fitsA ie.bytes (m + m2)) :
    ∃ v' w', (Builtin.append_ #[t, t] ty #[v, v2]).run P w = .ok v' w' ∧ RowOk w' true te sz v' (m + m2) (vs ++ ws) ∧ Chg w w' (blkO v).toList ∧ (∀ b, blkO v' = some b → w.heap.size ≤ b ∨ blkO v = some b) ∧ v'.oneCell' = true := by
  subst hsz; subst he1
  unfold appOk at hok
  rw [Bool.and_eq_true] at hok
  obtain ⟨h2, h3⟩ := hok
  cases hz : ie.zero with
  | none => rw [hz] at h2; cases h2
  | some z =>
    rw [hz] at h2
    have hzs : z.cells.size = ie.size := Nat.eq_of_beq_eq_true h2
    have h0 : ie.size ≠ 0 := by
      intro e0
      cases b2 <;> simp [e0] at h3
    obtain ⟨v', w', hr, ho', hc, hb, h1'⟩ := append_run (P := P) (ty := ty) ht hi hz hzs h0 ho hl hs.reads hs.len h1 hf
    exact ⟨v', w', hr, ownRow_reads ho' (by rw [List.length_append, hl, hs.len, Nat.add_mul]), hc, hb, h1'⟩

theorem appOk_row {te e2 : TypeId} {ie : TypeInfo} {ks : List CK} {l : List (List Int)} (h : appOk te ie (.row e2 ks l) = true) : e2 = te ∧ ks.length = ie.size := by
  unfold appOk at h
  rw [Bool.and_eq_true] at h
  have h3 := h.2
  simp only [Bool.and_eq_true] at h3
  exact ⟨Nat.eq_of_beq_eq_true h3.1.1, Nat.eq_of_beq_eq_true h3.1.2⟩
theorem appOk_arr {te e2 : TypeId} {ie : TypeInfo} {sz : Nat} {els : List (List AV)} (h : appOk te ie (.arr e2 sz els) = true) : e2 = te ∧ sz = ie.size := by
  unfold appOk at h
  rw [Bool.and_eq_true] at h
  have h3 := h.2
  simp only [Bool.and_eq_true] at h3
  exact ⟨Nat.eq_of_beq_eq_true h3.1.1, Nat.eq_of_beq_eq_true h3.1.2⟩
theorem appOk_rowOf {te e2 : TypeId} {ie : TypeInfo} {ks : List CK} {l : List (List Int)} {b : Body} (h : appOk te ie b = true) (hr : rowOf P b = some (e2, ks, l)) : e2 = te ∧ ks.length = ie.size := by
  cases b with
  | row => cases hr; exact appOk_row h
  | arr e' sz els =>
    obtain ⟨h1, h2⟩ := appOk_arr h
    simp only [rowOf] at hr
    cases hk : kinds P 9 e' with
    | none => rw [hk] at hr; cases hr
    | some ks' =>
      rw [hk] at hr
      simp only [] at hr
      split at hr
      · rename_i hl
        cases hc : codeR ks' els with
        | none => rw [hc] at hr; cases hr
        | some l' => rw [hc] at hr; cases hr; exact ⟨h1, by rw [hl, h2]⟩
      · cases hr
  | cells => cases hr
  | nil => cases hr
  | mp => cases hr
  | fin => cases hr
  | loop => cases hr

/-- What is appended stands for its content. -/
def SrcOk (E : Env) (w : World) (own : Bool) (v : Value) : Body → Prop
  | .row e ks l => RowOk w own e ks.length v l.length (rowV ks l)
  | .arr e sz els => RowOk w own e sz v els.length (AV.denL E els.flatten) ∧ (∀ el ∈ els, el.length = sz) ∧ els.flatten.all AV.scalar = true
  | _ => True
theorem srcOk_row {b : Body} {e : TypeId} {ks : List CK} {l : List (List Int)} {own : Bool} {v : Value} (h : rowOf P b = some (e, ks, l)) (hb : SrcOk E w own v b) : RowOk w own e ks.length v l.length (rowV ks l) := by
  cases b with
  | row => cases h; exact hb
  | arr e' sz els =>
    simp only [rowOf] at h
    cases hk : kinds P 9 e' with
    | none => rw [hk] at h; cases h
    | some ks' =>
      rw [hk] at h
      simp only [] at h
      split at h
      · rename_i hl
        cases hc : codeR ks' els with
        | none => rw [hc] at h; cases h
        | some l' =>
          rw [hc] at h
          cases h
          obtain ⟨h1, h2⟩ := codeR_den E hc
          have := hb.1
          rw [h1, ← h2, ← hl] at this
          exact this
      · cases h
  | cells => cases h
  | nil => cases h
  | mp => cases h
  | fin => cases h
  | loop => cases h
theorem appendA_sound (hH : HeapOk X E w0 ⟨objs, n⟩ w) (hfr : ∀ o ∈ objs, o.key ≠ K ∧ BodyAll (fun k => k ≠ K) o.body) {t ty te : TypeId} {ie : TypeInfo} (ht : P.underlying t = some (.slice te)) (hi : P.info? te = some ie) {s : AV} {x : Eff} {k2 : Nat} {own2 : Bool} {b2 : Body} {v2 : Value}
    (hb2 : SrcOk E w own2 v2 b2) (hlt2 : BodyAll (fun k => k < n) b2) (hfr2 : BodyAll (fun k => k ≠ K) b2) (hok : appOk te ie b2 = true) (h : appendA P K ie.bytes s (tgtA objs s) k2 b2 = some x) :
    EffWf n objs K x ∧ x.nk ≤ 1 ∧ (x.holds → ∃ E' w', (Builtin.append_ #[t, t] ty #[s.den E, v2]).run P w = .ok (x.v.den E') w' ∧ EffOk E objs w K x E' w') := by
  have hEK : ∀ (u : Value) (l : List AV), AV.allL (fun k => k ≠ K) l → AV.denL (fun k => if k = K then u else E k) l = AV.denL E l := fun u l hl => denL_congr_all (fun k (hk : k ≠ K) => if_neg hk) l hl
  have newrow : ∀ {u : Value} {w' : World} {ks : List CK} {l : List (List Int)} {e1 : TypeId}, RowOk w' true e1 ks.length u l.length (rowV ks l) → BodyOk (fun k => if k = K then u else E k) w' K true (.row e1 ks l) := by
    intro u w' ks l e1 hr
    show RowOk w' true e1 ks.length (if K = K then u else E K) l.length (rowV ks l)
    rw [if_pos rfl]; exact hr
  have newarr : ∀ {u : Value} {w' : World} {sz : Nat} {els : List (List AV)} {e1 : TypeId}, RowOk w' true e1 sz u els.length (AV.denL E els.flatten) → (∀ el ∈ els, el.length = sz) → els.flatten.all AV.scalar = true → AV.allL (fun k => k ≠ K) els.flatten → BodyOk (fun k => if k = K then u else E k) w' K true (.arr e1 sz els) := by
    intro u w' sz els e1 hr h1 h2 h3
    refine ⟨?_, h1, h2⟩
    rw [hEK _ _ h3]; simp only [if_true]; exact hr
  unfold appendA at h
  split at h
  · -- nil object, arr
    rename_i key k0 ver e2 sz2 els2 hf
    by_cases hc : key ≠ k2 ∧ fitsA ie.bytes els2.length
    case neg => rw [if_neg hc] at h; cases h
    rw [if_pos hc] at h
    cases h
    obtain ⟨hm, hk⟩ := findObj_mem hf
    have hk : k0 = key := hk
    subst hk
    have hnil : E k0 = .slice none 0 0 := hH.objs _ hm
    obtain ⟨rfl, hsz⟩ := appOk_arr hok
    obtain ⟨r1, r2, r3⟩ := hb2
    refine ⟨effWf_app (fun k hk => by simp at hk; subst hk; exact ⟨_, hm, rfl, rfl⟩) hlt2, Nat.le_refl _, fun _ => ?_⟩
    obtain ⟨v', w', hr, hro, hch, hbl, h1⟩ := append_core hH (ty := ty) ht hi hok (v := E k0) (m := 0) (vs := []) hsz rfl (.inl ⟨none, hnil, rfl⟩) (by simp) r1 (arr_one hH.env r3) (by simpa using hc.2)
    refine ⟨_, w', by simp only [AV.den, if_true]; exact hr, effOk_app hH.env (.inr ⟨k0, rfl, rfl⟩) h1 (newarr (by simpa using hro) r2 r3 hfr2) hch hbl⟩
  · -- nil object, row
    rename_i key k0 ver e2 ks2 l2 hf
    by_cases hc : key ≠ k2
    case neg => rw [if_neg hc] at h; cases h
    rw [if_pos hc] at h
    cases h
    obtain ⟨hm, hk⟩ := findObj_mem hf
    have hk : k0 = key := hk
    subst hk
    have hnil : E k0 = .slice none 0 0 := hH.objs _ hm
    obtain ⟨rfl, hsz⟩ := appOk_row hok
    refine ⟨effWf_app (fun k hk => by simp at hk; subst hk; exact ⟨_, hm, rfl, rfl⟩) bodyAll_row, Nat.le_refl _, fun hp => ?_⟩
    have hp : fitsA ie.bytes l2.length := hp
    obtain ⟨v', w', hr, hro, hch, hbl, h1⟩ := append_core hH (ty := ty) ht hi hok (v := E k0) (m := 0) (vs := []) hsz rfl (.inl ⟨none, hnil, rfl⟩) (by simp) hb2 (rowV_one _ _) (by simpa using hp)
    refine ⟨_, w', by simp only [AV.den, if_true]; exact hr, effOk_app hH.env (.inr ⟨k0, rfl, rfl⟩) h1 (newrow (by simpa using hro)) hch hbl⟩
  · -- nil, arr
    rename_i e2 sz2 els2
    by_cases hc : fitsA ie.bytes els2.length
    case neg => rw [if_neg hc] at h; cases h
    rw [if_pos hc] at h
    cases h
    obtain ⟨rfl, hsz⟩ := appOk_arr hok
    obtain ⟨r1, r2, r3⟩ := hb2
    refine ⟨effWf_app (by simp) hlt2, Nat.le_refl _, fun _ => ?_⟩
    obtain ⟨v', w', hr, hro, hch, hbl, h1⟩ := append_core hH (ty := ty) ht hi hok (v := .slice none 0 0) (m := 0) (vs := []) hsz rfl (.inl ⟨none, rfl, rfl⟩) (by simp) r1 (arr_one hH.env r3) (by simpa using hc)
    refine ⟨_, w', by simp only [AV.den, if_true]; exact hr, effOk_app hH.env (.inl ⟨rfl, rfl⟩) h1 (newarr (by simpa using hro) r2 r3 hfr2) hch hbl⟩
  · -- nil, row
    rename_i e2 ks2 l2
    cases h
    obtain ⟨rfl, hsz⟩ := appOk_row hok
    refine ⟨effWf_app (by simp) bodyAll_row, Nat.le_refl _, fun hp => ?_⟩
    have hp : fitsA ie.bytes l2.length := hp
    obtain ⟨v', w', hr, hro, hch, hbl, h1⟩ := append_core hH (ty := ty) ht hi hok (v := .slice none 0 0) (m := 0) (vs := []) hsz rfl (.inl ⟨none, rfl, rfl⟩) (by simp) hb2 (rowV_one _ _) (by simpa using hp)
    refine ⟨_, w', by simp only [AV.den, if_true]; exact hr, effOk_app hH.env (.inl ⟨rfl, rfl⟩) h1 (newrow (by simpa using hro)) hch hbl⟩
  · -- arr, arr
    rename_i key k0 ver e1 sz1 els1 e2 sz2 els2 hf
    by_cases hc : key ≠ k2 ∧ e1 = e2 ∧ sz1 = sz2 ∧ fitsA ie.bytes (els1.length + els2.length)
    case neg => rw [if_neg hc] at h; cases h
    rw [if_pos hc] at h
    cases h
    obtain ⟨_, rfl, rfl, hfit⟩ := hc
    obtain ⟨hm, hk⟩ := findObj_mem hf
    have hk : k0 = key := hk
    subst hk
    obtain ⟨q1, q2, q3⟩ := hH.objs _ hm
    have hfr1 := hfr _ hm
    have hlt1 := (hH.lt _ hm).2
    obtain ⟨rfl, hsz⟩ := appOk_arr hok
    obtain ⟨r1, r2, r3⟩ := hb2
    have hall : ∀ {p : Nat → Prop}, AV.allL p els1.flatten → AV.allL p els2.flatten → AV.allL p (els1 ++ els2).flatten := by
      intro p h1 h2
      rw [List.flatten_append, allL_iff] at *
      intro a ha
      rcases List.mem_append.1 ha with ha | ha
      · exact h1 a ha
      · exact h2 a ha
    refine ⟨effWf_app (fun k hk => by simp at hk; subst hk; exact ⟨_, hm, rfl, rfl⟩) (hall hlt1 hlt2), Nat.le_refl _, fun _ => ?_⟩
    obtain ⟨v', w', hr, hro, hch, hbl, h1⟩ := append_core hH (ty := ty) ht hi hok hsz rfl (q1.own rfl) q1.len r1 (arr_one hH.env r3) hfit
    refine ⟨_, w', by simp only [AV.den, if_true]; exact hr, effOk_app hH.env (.inr ⟨k0, rfl, rfl⟩) h1 (newarr ?_ ?_ ?_ (hall hfr1.2 hfr2)) hch hbl⟩
    · rw [List.length_append, List.flatten_append, denL_map, List.map_append, ← denL_map, ← denL_map]
      exact hro
    · intro el hel
      rcases List.mem_append.1 hel with hel | hel
      · exact q2 el hel
      · exact r2 el hel
    · rw [List.flatten_append, List.all_append, q3, r3]; rfl
  · -- rows
    rename_i key k0 ver b1 _ _ _ hf
    split at h
    · rename_i e1 ks1 l1 e2 ks2 l2 hr1 hr2
      by_cases hc : key ≠ k2 ∧ e1 = e2 ∧ ks1 = ks2
      case neg => rw [if_neg hc] at h; cases h
      rw [if_pos hc] at h
      cases h
      obtain ⟨_, rfl, rfl⟩ := hc
      obtain ⟨hm, hk⟩ := findObj_mem hf
      have hk : k0 = key := hk
      subst hk
      have q := rowOf_row hr1 (hH.objs _ hm)
      have r := srcOk_row hr2 hb2
      obtain ⟨rfl, hsz⟩ := appOk_rowOf hok hr2
      refine ⟨effWf_app (fun k hk => by simp at hk; subst hk; exact ⟨_, hm, rfl, rfl⟩) bodyAll_row, Nat.le_refl _, fun hp => ?_⟩
      have hp : fitsA ie.bytes (l1.length + l2.length) := hp
      obtain ⟨v', w', hr, hro, hch, hbl, h1⟩ := append_core hH (ty := ty) ht hi hok hsz rfl (q.own rfl) q.len r (rowV_one _ _) hp
      refine ⟨_, w', by simp only [AV.den, if_true]; exact hr, effOk_app hH.env (.inr ⟨k0, rfl, rfl⟩) h1 (newrow ?_) hch hbl⟩
      rw [List.length_append, rowV_append]
      exact hro
    · cases h
  · cases h

theorem appendA_form (hH : HeapOk X E w0 ⟨objs, n⟩ w) (hfr : ∀ o ∈ objs, o.key ≠ K ∧ BodyAll (fun k => k ≠ K) o.body) {bytes : Nat} {s : AV} {x : Eff} {k2 : Nat} {b2 : Body}
    (hlt2 : BodyAll (fun k => k < n) b2) (h : appendA P K bytes s (tgtA objs s) k2 b2 = some x) : EffWf n objs K x ∧ x.nk ≤ 1 := by
  have own1 : ∀ {key k0 ver : Nat} {b : Body}, findObj key objs = some ⟨k0, ver, true, b⟩ → ∀ k ∈ [key], ∃ o ∈ objs, o.key = k ∧ o.own = true := by
    intro key k0 ver b hf k hk
    simp at hk; subst hk
    obtain ⟨hm, hk⟩ := findObj_mem hf
    exact ⟨_, hm, hk, rfl⟩
  unfold appendA at h
  split at h
  · rename_i hf
    split at h
    · cases h; exact ⟨effWf_app (own1 hf) hlt2, Nat.le_refl _⟩
    · cases h
  · rename_i hf
    split at h
    · cases h; exact ⟨effWf_app (own1 hf) bodyAll_row, Nat.le_refl _⟩
    · cases h
  · split at h
    · cases h; exact ⟨effWf_app (by simp) hlt2, Nat.le_refl _⟩
    · cases h
  · cases h; exact ⟨effWf_app (by simp) bodyAll_row, Nat.le_refl _⟩
  · rename_i key k0 ver e1 sz1 els1 e2 sz2 els2 hf
    split at h
    · cases h
      obtain ⟨hm, hk⟩ := findObj_mem hf
      have hlt1 := (hH.lt _ hm).2
      refine ⟨effWf_app (own1 hf) ?_, Nat.le_refl _⟩
      show AV.allL _ (els1 ++ els2).flatten
      have h1 : AV.allL (fun k => k < n) els1.flatten := hlt1
      have h2 : AV.allL (fun k => k < n) els2.flatten := hlt2
      rw [List.flatten_append, allL_iff] at *
      intro a ha
      rcases List.mem_append.1 ha with ha | ha
      · exact h1 a ha
      · exact h2 a ha
    · cases h
  · rename_i hf
    split at h
    · split at h
      · cases h; exact ⟨effWf_app (own1 hf) bodyAll_row, Nat.le_refl _⟩
      · cases h
    · cases h
  · cases h

theorem srcA_sound (hH : HeapOk X E w0 ⟨objs, n⟩ w) {y : AV} {k2 : Nat} {b2 : Body} {p : Option Prop} (h : srcA P objs y = some (k2, b2, p)) :
    ∃ o ∈ objs, o.key = k2 ∧ (b2 = o.body ∨ ∃ e ks l, b2 = .row e ks l) ∧ (holdsO p → SrcOk E w false (y.den E) b2) := by
  have weaken : ∀ {own : Bool} {e : TypeId} {sz : Nat} {v : Value} {m : Nat} {vs : List Value}, RowOk w own e sz v m vs → RowOk w false e sz v m vs := fun h => ⟨h.reads, h.len, fun h => by cases h⟩
  cases y with
  | sl key =>
    simp only [srcA] at h
    split at h
    · rename_i o hf
      cases h
      obtain ⟨hm, hk⟩ := findObj_mem hf
      subst hk
      refine ⟨o, hm, rfl, .inl rfl, fun _ => ?_⟩
      have := hH.objs _ hm
      simp only [AV.den]
      revert this
      generalize o.body = b
      intro this
      cases b with
      | row => exact weaken this
      | arr => exact ⟨weaken this.1, this.2⟩
      | _ => trivial
    · cases h
  | vw key sz lo hi =>
    simp only [srcA] at h
    split at h
    · rename_i o hf
      split at h
      · rename_i e ks l hr
        split at h
        · rename_i hks
          cases h
          obtain ⟨hm, hk⟩ := findObj_mem hf
          subst hk
          refine ⟨o, hm, rfl, .inr ⟨_, _, _, rfl⟩, fun hp => ?_⟩
          have := row_part (rowOf_row hr (hH.objs _ hm)) (lo := lo) (hi := hi) hp
          rw [hks] at this
          show RowOk w false e ks.length _ _ _
          rw [hks]
          exact this
        · cases h
      · cases h
    · cases h
  | _ => cases h
theorem appendOpA_sound (hH : HeapOk X E w0 ⟨objs, n⟩ w) (hfr : ∀ o ∈ objs, o.key ≠ K ∧ BodyAll (fun k => k ≠ K) o.body) {t ty : TypeId} {s y : AV} {x : Eff} (h : appendOpA P objs K t s y = some x) :
    EffWf n objs K x ∧ x.nk ≤ 1 ∧ (x.holds → ∃ E' w', (Builtin.append_ #[t, t] ty #[s.den E, y.den E]).run P w = .ok (x.v.den E') w' ∧ EffOk E objs w K x E' w') := by
  unfold appendOpA at h
  split at h
  case h_2 => cases h
  rename_i key2 b2 p hsrc
  split at h
  case h_2 => cases h
  rename_i te ht
  cases hi : P.info? te with
  | none => rw [hi] at h; cases h
  | some ie =>
  rw [hi] at h
  simp only [] at h
  by_cases hok : appOk te ie b2 = true
  case neg => rw [if_neg hok] at h; cases h
  rw [if_pos hok] at h
  obtain ⟨o2, hm2, rfl, hbody, hso⟩ := srcA_sound hH hsrc
  have hlt2 : BodyAll (fun k => k < n) b2 := by
    rcases hbody with rfl | ⟨_, _, _, rfl⟩
    · exact (hH.lt _ hm2).2
    · exact bodyAll_row
  have hfr2 : BodyAll (fun k => k ≠ K) b2 := by
    rcases hbody with rfl | ⟨_, _, _, rfl⟩
    · exact (hfr _ hm2).2
    · exact bodyAll_row
  obtain ⟨z, hz, rfl⟩ := Option.map_eq_some_iff.1 h
  have wf : EffWf n objs K z → EffWf n objs K { z with p := conjP p z.p } := fun h => ⟨h.rm, h.key, h.uniq, h.all, h.val, h.ver⟩
  have ok : ∀ {E' : Env} {w' : World}, EffOk E objs w K z E' w' → EffOk E objs w K { z with p := conjP p z.p } E' w' := fun h => ⟨h.agree, h.env, h.chg, h.bodies, h.own, h.ro, h.inj⟩
  have split_ : ({ z with p := conjP p z.p } : Eff).holds → holdsO p ∧ z.holds := by
    intro h
    obtain ⟨zp, _, _, _, _⟩ := z
    cases p with
    | none => exact ⟨trivial, h⟩
    | some p => cases zp with
      | none => exact ⟨h, trivial⟩
      | some q => exact h
  by_cases hp : holdsO p
  · obtain ⟨a1, a2, a3⟩ := appendA_sound (ty := ty) hH hfr ht hi (hso hp) hlt2 hfr2 hok hz
    refine ⟨wf a1, a2, fun hh => ?_⟩
    obtain ⟨E', w', r1, r2⟩ := a3 (split_ hh).2
    exact ⟨E', w', r1, ok r2⟩
  · -- the form alone
    obtain ⟨f1, f2⟩ := appendA_form hH hfr hlt2 hz
    exact ⟨wf f1, f2, fun hh => absurd (split_ hh).1 hp⟩

theorem conj_holds {p q : Option Prop} (h : holdsO (conjP p q)) : holdsO p ∧ holdsO q := by
  cases p with
  | none => exact ⟨trivial, h⟩
  | some p => cases q with
    | none => exact ⟨h, trivial⟩
    | some q => exact h
theorem appendVwA_sound (hH : HeapOk X E w0 ⟨objs, n⟩ w) {t ty : TypeId} {s y : AV} {x : Eff} (hs : AV.all (fun k => k < n) s) (h : appendVwA P objs K t s y = some x) :
    EffWf n objs K x ∧ x.nk = 0 ∧ (x.holds → ∃ w', (Builtin.append_ #[t, t] ty #[s.den E, y.den E]).run P w = .ok (x.v.den E) w' ∧ EffOk E objs w K x E w') := by
  obtain ⟨key, sz, lo, hi, rfl⟩ : ∃ key sz lo hi, s = .vw key sz lo hi := by cases s <;> first | exact ⟨_, _, _, _, rfl⟩ | cases h
  unfold appendVwA at h
  simp only [] at h
  split at h
  case h_2 => cases h
  rename_i k2 b2 p hsrc
  split at h
  case h_2 => cases h
  rename_i e2 ks2 l2 k0 ver b te hr2 hf ht
  split at h
  case h_2 => cases h
  rename_i e ks l ie hr hi'
  split at h
  case isFalse => cases h
  rename_i hc
  cases h
  obtain ⟨rfl, rfl, rfl, rfl, hsz, hne0⟩ := hc
  obtain ⟨hm, hk⟩ := findObj_mem hf
  have hk : k0 = key := hk
  subst hk
  have hrow : RowOk w true e2 ks2.length (E k0) l.length (rowV ks2 l) := rowOf_row hr (hH.objs _ hm)
  obtain ⟨o2, hm2, rfl, hbody, hso⟩ := srcA_sound hH hsrc
  refine ⟨effWf_put ⟨_, hm, rfl, rfl⟩ bodyAll_row hs, rfl, fun hp => ?_⟩
  obtain ⟨hp1, hp2⟩ := conj_holds (p := p) (q := some _) hp
  obtain ⟨⟨c1, c2⟩, c3⟩ : cutOk l lo hi ∧ hi.toNat + l2.length ≤ l.length := hp2
  have src := srcOk_row hr2 (hso hp1)
  obtain ⟨a2, cap2, hv2, _, _⟩ := src.reads.is
  have hspl : splice l hi.toNat l2 = l.take hi.toNat ++ l2 ++ l.drop (hi.toNat + l2.length) := rfl
  -- nothing appended
  by_cases hm0 : l2.length = 0
  · have hl2 : l2 = [] := List.eq_nil_of_length_eq_zero hm0
    subst hl2
    have hs0 : splice l hi.toNat [] = l := by simp [splice]
    rw [hs0] at hspl
    refine ⟨w, ?_, effOk_put hH.env (by rw [← hspl]; exact hrow) ⟨0, .inr (Chg.refl _ _)⟩⟩
    obtain ⟨a, c, hv, hmc, _⟩ := hrow.reads.is
    have hle : hi.toNat - loN lo ≤ c - loN lo := by omega
    rw [hv2]
    simp only [AV.den, partOf, hv, sliced, List.length_nil, Nat.add_zero, Int.toNat_natCast]
    generalize (if c = loN lo then a else a.map fun x => x.add (loN lo * ks2.length)) = a'
    cases a' with
    | none => cases a2 <;> simp [Builtin.append_, run_underlying ht, sizeOf, typeInfo, hi', Builtin.lenOf, Builtin.firstCells, loadCells, loadCellsFrom, hle]
    | some a' => cases a2 <;> simp [Builtin.append_, run_underlying ht, sizeOf, typeInfo, hi', Builtin.lenOf, Builtin.firstCells, loadCells, loadCellsFrom, storeCells, hle]
  · rcases hrow.own rfl with ⟨a', ha, hn⟩ | ⟨g, cap, cur, hE', hg, hcap, hmax, hcs, htk⟩
    · omega
    · have hne : ¬ cap = loN lo := by omega
      have hcap0 : cap ≠ 0 := by omega
      have hrl : (rowV ks2 l2).length = l2.length * ks2.length := rowV_length _ _
      obtain ⟨u0, hu0⟩ : ∃ u0, (rowV ks2 l2)[0]? = some u0 := ⟨_, List.getElem?_eq_getElem (by rw [hrl]; exact Nat.mul_pos (by omega) (by omega))⟩
      obtain ⟨ad, had, _⟩ := src.reads.cell 0 u0 hu0
      rw [hv2] at had
      have had : a2 = some ad := had
      subst had
      have hnews : ∀ j u, (rowV ks2 l2)[j]? = some u → w.cell? (ad.add j) = some u := by
        intro j u hj
        obtain ⟨a', ha', hcl⟩ := src.reads.cell j u hj
        rw [hv2] at ha'
        cases ha'
        exact hcl
      have hfc := run_firstCells_some (P := P) w ks2.length l2.length ad l2.length cap2 (rowV ks2 l2) hrl hnews
      have hfit : hi.toNat * ks2.length + (rowV ks2 l2).length ≤ cur.size := by
        rw [hrl, ← Nat.add_mul, hcs]
        exact Nat.mul_le_mul_right _ (by omega)
      have hst := run_storeCells_at P g (hi.toNat * ks2.length) e2 (rowV ks2 l2) 0 cur w hg (by simpa using hfit) (rowV_one _ _)
      simp only [Nat.add_zero] at hst
      have hown := own_splice (w := w) hE' hg hcap hmax hcs htk (lo := hi.toNat) (m := l2) c3
      refine ⟨_, ?_, effOk_put hH.env (by rw [← hspl]; exact hown) ⟨g, .inl ⟨by rw [hE']; simp [blkO, hcap0], chg_setRow _ _ _⟩⟩⟩
      have hroom : hi.toNat - loN lo + l2.length ≤ cap - loN lo := by omega
      have hadd : loN lo * ks2.length + (hi.toNat - loN lo) * ks2.length = hi.toNat * ks2.length := by rw [← Nat.add_mul]; congr 1; omega
      have hlen : hi.toNat - loN lo + l2.length = hi.toNat + l2.length - loN lo := by omega
      rw [hv2]
      simp only [AV.den, partOf, hE', sliced, if_neg hne, Option.map_some, addr_add, Nat.zero_add, Int.toNat_natCast]
      have hst' : (storeCells ((⟨g, loN lo * ks2.length, none⟩ : Addr).add ((hi.toNat - loN lo) * ks2.length)) (rowV ks2 l2)).run P w = .ok () (w.setRow g (cur.toList.take (hi.toNat * ks2.length) ++ rowV ks2 l2 ++ cur.toList.drop (hi.toNat * ks2.length + (rowV ks2 l2).length)).toArray) := by rw [addr_add, hadd]; exact hst
      have hroom2 : hi.toNat + l2.length - loN lo ≤ cap - loN lo := by omega
      simp [Builtin.append_, run_underlying ht, sizeOf, typeInfo, hi', Builtin.lenOf, hsz, hroom2, hfc, hst', hlen]

theorem settleA_sound (hH : HeapOk X E w0 ⟨objs, n⟩ w) (hfr : ∀ o ∈ objs, o.key ≠ K) {v : AV} {x : Eff} (h : settleA P objs K v = some x) :
    EffWf n objs K x ∧ x.nk = 1 ∧ (x.holds → ∃ E', EffOk E objs w K x E' w ∧ x.v.den E' = v.den E) := by
  unfold settleA at h
  split at h
  case h_2 => cases h
  rename_i key sz hi
  split at h
  case h_2 => cases h
  rename_i k0 ver b hf
  split at h
  case h_2 => cases h
  rename_i e ks l hr
  split at h
  case isFalse => cases h
  rename_i hsz
  cases h
  subst hsz
  obtain ⟨hm, hk⟩ := findObj_mem hf
  have hk : k0 = key := hk
  subst hk
  have hrow : RowOk w true e ks.length (E k0) l.length (rowV ks l) := rowOf_row hr (hH.objs _ hm)
  refine ⟨effWf_app (fun k hk => by simp at hk; subst hk; exact ⟨_, hm, rfl, rfl⟩) bodyAll_row, rfl, fun hp => ?_⟩
  obtain ⟨h1, h2⟩ : 0 ≤ hi ∧ hi ≤ (l.length : Int) := hp
  let v' : Value := partOf (E k0) ks.length 0 hi.toNat
  have h3 : hi.toNat ≤ l.length := by omega
  have htl : (l.take hi.toNat).length = hi.toNat := by simp; omega
  have hown : OwnRow w e ks.length v' hi.toNat (rowV ks (l.take hi.toNat)) ∧ ∀ g, blkO v' = some g → blkO (E k0) = some g := by
    rcases hrow.own rfl with ⟨a, ha, hn⟩ | ⟨g, cap, cur, hE', hg, hcap, hmax, hcs, htk⟩
    · have h0 : hi.toNat = 0 := by omega
      refine ⟨.inl ⟨a, ?_, h0⟩, ?_⟩
      · simp [v', partOf, ha, sliced, h0]
      · intro g hg
        simp [v', partOf, ha, sliced, h0] at hg
        cases a <;> simp [blkO] at hg
    · have hv' : v' = .slice (some ⟨g, 0, none⟩) hi.toNat cap := by
        simp only [v', partOf, hE', sliced, Nat.sub_zero, Nat.zero_mul, Option.map_some, addr_zero]
        split <;> rfl
      rw [hv', hE']
      refine ⟨.inr ⟨g, cap, cur, rfl, hg, by omega, hmax, hcs, ?_⟩, fun _ h => h⟩
      rw [rowV_take, ← htk, List.take_take, Nat.min_eq_left (Nat.mul_le_mul_right _ h3)]
  have hro := ownRow_reads hown.1 (by rw [rowV_length, htl])
  refine ⟨fun k => if k = K then v' else E k, effOk_app hH.env (.inr ⟨k0, rfl, rfl⟩) (partOf_one (hH.env _) _ _ _) ?_ (Chg.refl _ _) (fun g hg => .inr (hown.2 g hg)), ?_⟩
  · show RowOk w true e ks.length (if K = K then v' else E K) (l.take hi.toNat).length (rowV ks (l.take hi.toNat))
    rw [if_pos rfl, htl]; exact hro
  · simp only [AV.den, if_true]; rfl
/-! ### one operation -/
/-- An operation that turns nothing. -/
theorem op_pure (hH : HeapOk X E w0 ⟨objs, n⟩ w) {o : Oper} {p : Option Prop} {v : AV} (hv : AV.all (fun k => k < n) v) (hr : (⟨p, [], 0, [], v⟩ : Eff).holds → (execOp e o).run P w = .ok (.value (v.den E)) w) :
    EffWf n objs K ⟨p, [], 0, [], v⟩ ∧ OpOk P E objs w K e o ⟨p, [], 0, [], v⟩ ∧ (⟨p, [], 0, [], v⟩ : Eff).nk ≤ 1 :=
  ⟨effWf_pure p (all_imp (fun k hk => .inl hk) v hv), fun hp => ⟨E, w, _, hr hp, .inl rfl, effOk_pure hH.env p v⟩, Nat.zero_le _⟩
theorem intOp_sound (hH : HeapOk X E w0 ⟨objs, n⟩ w) (op : BinOp) (k : IntKind) (a b : Int) (t yt : TypeId) (x y : Operand) (o : Oper) (ho : o.op = .binOp op t x y yt) (hx : e x = .int k a) (hy : e y = .int k b) {z : Eff} (h : intOp op k a b = some z) :
    EffWf n objs K z ∧ OpOk P E objs w K e o z ∧ z.nk ≤ 1 := by
  cases op <;> simp only [intOp, okE, chkE] at h <;> cases h <;> refine op_pure hH trivial (fun hp => ?_) <;> first
    | (simp [execOp, ho, hx, hy, eqGuard, binOp, Op.intArith, Op.intCmp, AV.den]; done)
    | (have hb : b ≠ 0 := hp
       simp [execOp, ho, hx, hy, eqGuard, binOp, Op.intDiv, AV.den, hb]; done)
    | (have hb : 0 ≤ b := hp
       simp [execOp, ho, hx, hy, eqGuard, binOp, Op.shift, AV.den, Int.not_lt.2 hb]; done)

theorem fieldAddrA_sound (hH : HeapOk X E w0 ⟨objs, n⟩ w) {d : Nat} {v : AV} {z : Eff} (hv : AV.all (fun k => k < n) v) (h : fieldAddrA P objs d v = some z) :
    ∃ p u, z = ⟨p, [], 0, [], u⟩ ∧ AV.all (fun k => k < n) u ∧ (z.holds → ∃ a, v.den E = .pointer (some a) ∧ u.den E = .pointer (some (a.add d))) := by
  have key : ∀ {key : Nat} {own : Bool} {te : TypeId} {sz' m : Nat} {vs : List Value} {sz : Nat} {kn : Bool} {i : Int} {off : Nat}, RowOk w own te sz' (E key) m vs → 0 < vs.length →
      ∃ a, (AV.ix key sz kn i off).den E = .pointer (some a) ∧ (AV.ix key sz kn i (off + d)).den E = .pointer (some (a.add d)) := by
    intro key own te sz' m vs sz kn i off hr hpos
    obtain ⟨a, ha, _⟩ := hr.reads.cell 0 vs[0] (List.getElem?_eq_getElem hpos)
    exact ⟨a.add (i.toNat * sz + off), by simp only [AV.den, ha, Option.map_some], by simp only [AV.den, ha, Option.map_some, add_add, Nat.add_assoc]⟩
  unfold fieldAddrA at h
  split at h
  · rename_i key off
    cases h
    exact ⟨_, _, rfl, hv, fun _ => ⟨_, rfl, by simp [AV.den, addr_add]⟩⟩
  · rename_i key sz kn i off
    cases hf : findObj key objs with
    | none => rw [hf] at h; cases h
    | some o =>
    rw [hf] at h
    simp only [] at h
    obtain ⟨hm, hk⟩ := findObj_mem hf
    subst hk
    have hb := hH.objs _ hm
    obtain ⟨k0, ver, own, b⟩ := o
    simp only [] at h hb hv
    cases b with
    | arr e sz' els =>
      obtain ⟨h1, h2, h3⟩ := hb
      cases kn with
      | true =>
        simp only [] at h
        split at h
        · rename_i hc
          cases h
          exact ⟨_, _, rfl, hv, fun _ => key h1 (by rw [h1.len]; exact Nat.mul_pos (by omega) (by omega))⟩
        · cases h
      | false =>
        simp only [] at h
        split at h
        · rename_i e2 ks l hr
          split at h
          · rename_i hks
            cases h
            refine ⟨_, _, rfl, hv, fun hp => ?_⟩
            have hp : inR i l := hp
            have hrow := rowOf_row (E := E) (w := w) (key := k0) (own := own) hr ⟨h1, h2, h3⟩
            have : 0 < ks.length := List.length_pos_iff.2 hks
            exact key hrow (by rw [hrow.len]; exact Nat.mul_pos (by have := hp.1; have := hp.2; omega) this)
          · cases h
        · cases h
    | row e ks l =>
      simp only [] at h
      split at h
      · rename_i hks
        cases h
        refine ⟨_, _, rfl, hv, fun hp => ?_⟩
        have hp : inR i l := hp
        have hrow : RowOk w own e ks.length (E k0) l.length (rowV ks l) := hb
        have : 0 < ks.length := List.length_pos_iff.2 hks
        exact key hrow (by rw [hrow.len]; exact Nat.mul_pos (by have := hp.1; have := hp.2; omega) this)
      · cases h
    | cells => cases h
    | nil => cases h
    | mp => cases h
    | fin => cases h
    | loop => cases h
  · cases h

theorem lenA_sound (hH : HeapOk X E w0 ⟨objs, n⟩ w) {t ty : TypeId} {v : AV} {z : Eff} (h : lenA P objs (P.underlying t) v = some z) :
    ∃ u, z = ⟨none, [], 0, [], u⟩ ∧ AV.all (fun k => k < n) u ∧ (Builtin.len_ #[t] ty #[v.den E]).run P w = .ok (u.den E) w := by
  have key : ∀ {te : TypeId} {a : Option Addr} {m c : Nat}, P.underlying t = some (.slice te) → (Builtin.len_ #[t] ty #[.slice a m c]).run P w = .ok (.int .i64 m) w := by
    intro te a m c hu
    simp [Builtin.len_, run_underlying hu, goInt]
  unfold lenA at h
  split at h
  · rename_i te k0 hu
    split at h
    · rename_i k1 ver own e sz els hf
      cases h
      obtain ⟨hm, hk⟩ := findObj_mem hf
      have hk : k1 = k0 := hk
      subst hk
      obtain ⟨h1, _, _⟩ := hH.objs _ hm
      obtain ⟨a, c, hv, _⟩ := h1.reads.is
      have hv : E k1 = _ := hv
      exact ⟨_, rfl, trivial, by simp only [AV.den, hv]; exact key hu⟩
    · rename_i k1 ver own e ks l hf
      cases h
      obtain ⟨hm, hk⟩ := findObj_mem hf
      have hk : k1 = k0 := hk
      subst hk
      have h1 : RowOk w own e ks.length (E k1) l.length (rowV ks l) := hH.objs _ hm
      obtain ⟨a, c, hv, _⟩ := h1.reads.is
      exact ⟨_, rfl, trivial, by simp only [AV.den, hv]; exact key hu⟩
    · rename_i k1 ver own hf
      cases h
      obtain ⟨hm, hk⟩ := findObj_mem hf
      have hk : k1 = k0 := hk
      subst hk
      have h1 : E k1 = .slice none 0 0 := hH.objs _ hm
      exact ⟨_, rfl, trivial, by simp only [AV.den, h1]; exact key hu⟩
    · cases h
  · rename_i te a m c hu
    cases h
    exact ⟨_, rfl, trivial, key hu⟩
  · rename_i te k0 sz lo hi hu
    split at h
    · rename_i o hf
      split at h
      · rename_i y hr
        cases h
        obtain ⟨e, ks, l⟩ := y
        obtain ⟨hm, hk⟩ := findObj_mem hf
        subst hk
        obtain ⟨a, c, hv, _⟩ := (rowOf_row hr (hH.objs _ hm)).reads.is
        exact ⟨_, rfl, trivial, by simp only [AV.den, partOf, hv, sliced]; exact key hu⟩
      · cases h
    · cases h
  · cases h

theorem appendA_nk {bytes : Nat} {s : AV} {o : Option Obj} {key2 : Nat} {b2 : Body} {x : Eff} (h : appendA P K bytes s o key2 b2 = some x) : x.nk = 1 := by
  unfold appendA at h
  repeat' split at h
  all_goals first | (cases h; done) | (cases h; rfl)
theorem appendOpA_nk {t : TypeId} {s y : AV} {x : Eff} (h : appendOpA P objs K t s y = some x) : x.nk = 1 := by
  unfold appendOpA at h
  split at h
  · split at h
    · split at h
      · split at h
        · obtain ⟨z, hz, rfl⟩ := Option.map_eq_some_iff.1 h
          show z.nk = 1
          exact appendA_nk hz
        · cases h
      · cases h
    · cases h
  · cases h
theorem slice0A_sound (hH : HeapOk X E w0 ⟨objs, n⟩ w) {t : TypeId} {v : AV} {x : Eff} (h : slice0A P objs K t v = some x) {hiv mxv : Value} (h1 : ∃ k, hiv = .int k 0) (h2 : ∃ k, mxv = .int k 0) :
    EffWf n objs K x ∧ x.nk = 1 ∧ ∃ E' w', (Instr.sliceAt t (v.den E) none (some hiv) (some mxv)).run P w = .ok (x.v.den E') w' ∧ EffOk E objs w K x E' w' := by
  obtain ⟨k, rfl⟩ := h1
  obtain ⟨k', rfl⟩ := h2
  unfold slice0A at h
  split at h
  case h_2 => cases h
  rename_i te hu
  split at h
  case h_2 => cases h
  rename_i sz hs
  have fin : ∀ {a : Option Addr} {len c : Nat} {b : Body}, BodyOk (fun k => if k = K then .slice a 0 0 else E k) w K true b → BodyAll (fun k => k < n) b → v.den E = .slice a len c →
      EffWf n objs K ⟨none, [], 1, [⟨K, K, true, b⟩], .sl K⟩ ∧ (⟨none, [], 1, [⟨K, K, true, b⟩], .sl K⟩ : Eff).nk = 1 ∧ ∃ E' w', (Instr.sliceAt t (v.den E) none (some (.int k 0)) (some (.int k' 0))).run P w = .ok ((AV.sl K).den E') w' ∧ EffOk E objs w K ⟨none, [], 1, [⟨K, K, true, b⟩], .sl K⟩ E' w' := by
    intro a len c b hb hall hv
    refine ⟨effWf_new hall (Nat.lt_succ_self K), rfl, _, w, ?_, effOk_new (u := .slice a 0 0) hH.env rfl hb (Blw.refl _ _) (fun g hg => by cases a <;> simp [blkO] at hg) _⟩
    rw [hv]
    simp only [AV.den, if_true]
    exact run_slice0 hu hs
  have nilrow : ∀ {a : Option Addr} {e : TypeId} {ks : List CK}, BodyOk (fun k => if k = K then .slice a 0 0 else E k) w K true (.row e ks []) := by
    intro a e ks
    show RowOk w true e ks.length (if K = K then .slice a 0 0 else E K) 0 (rowV ks [])
    rw [if_pos rfl]
    exact ownRow_reads (.inl ⟨a, rfl, rfl⟩) (by simp [rowV])
  split at h
  · rename_i key
    split at h
    case h_2 => cases h
    rename_i o hf
    obtain ⟨hm, hk⟩ := findObj_mem hf
    subst hk
    have hb := hH.objs _ hm
    split at h
    · rename_i hbody
      cases h
      rw [hbody] at hb
      have hE : E o.key = .slice none 0 0 := hb
      exact fin (a := none) (by show (if K = K then _ else _) = _; rw [if_pos rfl]) bodyAll_nil hE
    · split at h
      case h_2 => cases h
      rename_i e ks l hr
      split at h
      · cases h
        obtain ⟨a, c, hv, _⟩ := (rowOf_row hr hb).reads.is
        exact fin nilrow bodyAll_row hv
      · cases h
  · cases h
    exact fin (a := none) (by show (if K = K then _ else _) = _; rw [if_pos rfl]) bodyAll_nil rfl
  · cases h
theorem isZeroA_spec {x : Option AV} (h : isZeroA x = true) : ∃ k, x = some (.val (.int k 0)) := by
  unfold isZeroA at h
  split at h
  · rename_i k n
    exact ⟨k, by rw [of_decide_eq_true h]⟩
  · cases h
theorem absOp0_sound (hH : HeapOk X E w0 ⟨objs, n⟩ w) (hρ : ∀ x v, ρ x = some v → e x = v.den E ∧ AV.lt K v) (hKn : K ≤ n) (o : Oper) {z : Eff} (h : absOp0 P ρ objs K o.op = some z) (hfr : z.nk ≠ 0 → ∀ o ∈ objs, o.key ≠ K ∧ BodyAll (fun k => k ≠ K) o.body) :
    EffWf n objs K z ∧ OpOk P E objs w K e o z ∧ z.nk ≤ 1 := by
  have hρ1 : ∀ x v, ρ x = some v → e x = v.den E := fun x v h => (hρ x v h).1
  have hρ2 : ∀ x v, ρ x = some v → AV.all (fun k => k < n) v := fun x v h => lt_mono hKn v (hρ x v h).2
  have hρL : ∀ (l : List Operand) (vs : List AV), readL ρ l = some vs → AV.allL (fun k => k < n) vs := fun l vs h => (allL_iff _ _).2 (readL_all (Q := AV.all (fun k => k < n)) hρ2 l vs h)
  have newbox : ∀ {t : TypeId} {cs : List AV}, AV.allL (fun k => k < K) cs → (execOp e o).run P w = .ok (.value (.pointer (some ⟨w.heap.size, 0, none⟩))) (w.alloc (.cells (AV.denL E cs).toArray t)) →
      EffWf n objs K ⟨none, [], 1, [⟨K, K, true, .cells cs⟩], .ptr K 0⟩ ∧ OpOk P E objs w K e o ⟨none, [], 1, [⟨K, K, true, .cells cs⟩], .ptr K 0⟩ ∧ (⟨none, [], 1, [⟨K, K, true, .cells cs⟩], .ptr K 0⟩ : Eff).nk ≤ 1 := by
    intro t cs hcs hr
    refine ⟨effWf_new (allL_imp (fun k hk => Nat.lt_of_lt_of_le hk hKn) _ hcs) (Nat.lt_succ_self K), fun _ => ⟨_, _, _, hr, .inl ?_, effOk_new (u := .pointer (some ⟨w.heap.size, 0, none⟩)) hH.env rfl ?_ (below_alloc _ _) ?_ _⟩, Nat.le_refl _⟩
    · simp [AV.den, blk]
    · refine ⟨w.heap.size, t, if_pos rfl, ?_⟩
      rw [denL_congr_all (E := E) (fun k (hk : k < K) => if_neg (by omega)) cs hcs]
      exact heap_alloc_get w _
    · intro g hg; cases hg; exact Nat.le_refl _
  generalize hop : o.op = op at h
  unfold absOp0 at h
  split at h
  · -- move
    split at h
    · rename_i v hv; cases h; exact op_pure hH (hρ2 _ _ hv) fun _ => by simp [execOp, hop, hρ1 _ _ hv]
    · cases h
  · split at h
    · rename_i v hv; cases h; exact op_pure hH (hρ2 _ _ hv) fun _ => by simp [execOp, hop, hρ1 _ _ hv]
    · cases h
  · -- alloc
    rename_i t
    split at h
    · rename_i z' hz
      cases h
      exact newbox (t := t) (all_cells (all_zeroA hz _)) (by simp [execOp, hop, Instr.alloc, run_zeroA hz E, newVar, newRow, cells_den (zeroA_plain hz) hH.env])
    · cases h
  · -- box
    rename_i t x
    split at h
    · rename_i v hv
      split at h
      · rename_i hpl
        cases h
        exact newbox (t := t) (all_cells (hρ _ _ hv).2) (by simp [execOp, hop, Instr.box, hρ1 _ _ hv, newVar, newRow, cells_den hpl hH.env])
      · cases h
    · cases h
  · -- buildSlice
    rename_i t len parts
    obtain ⟨h1, E', w', hr, he⟩ := buildSliceA_sound hH hρ hKn h
    refine ⟨h1, fun _ => ⟨E', w', .value (z.v.den E'), ?_, .inl rfl, he⟩, ?_⟩
    · simp only [execOp, hop, Sem.run_bind, hr, Result.andThen_ok, Sem.run_pure]
    · unfold buildSliceA at h
      split at h
      · split at h
        · split at h
          · split at h
            · cases h; exact Nat.le_refl _
            · cases h
          · cases h
        · cases h
      · cases h
  · -- build
    rename_i t parts
    split at h
    · rename_i z' place ps hz hp hps
      split at h
      · rename_i cs hcs
        cases h
        have hbuilt : P.built t (parts.map fun (i, x) => (i, e x)).toList = some (AV.denL E cs).toArray := by
          have hl : (parts.map fun (i, x) => (i, e x)).toList = ps.map fun p => (p.1, p.2.den E) := by
            rw [Array.toList_map]; exact readParts_sound hρ1 _ _ hps
          have hf := fill_sound E hH.env ps z'.cells cs hcs
          rw [hl]
          have hpl := zeroA_plain hz
          unfold zeroA at hz
          unfold Program.built
          split at hz
          · rename_i it hit
            cases h2 : it.zero with
            | none => simp [h2] at hz
            | some v =>
              have hzc : v.cells.toList = AV.denL E z'.cells := by
                have := cells_den hpl hH.env
                simp only [h2, Option.map_some, Option.some.injEq] at hz
                rw [← hz, den_ofValue] at this
                rw [this, hz]
              have hzc' : v.cells = (AV.denL E z'.cells).toArray := by rw [← hzc]
              unfold placesA at hp
              split at hp
              · rename_i n te hu
                cases hie : P.info? te with
                | none => simp [hie] at hp
                | some ie =>
                  simp only [hie, Option.map_some, Option.some.injEq] at hp
                  subst hp
                  simp only [hit, hu, h2, hie, hzc']
                  exact hf
              · rename_i fields hu
                cases hm : fields.toList.mapM (fun f => (P.info? f.type).map fun i => (f.offset, i.size)) with
                | none => simp [hm] at hp
                | some places =>
                  simp only [hm, Option.map_some, Option.some.injEq] at hp
                  subst hp
                  simp only [hit, hu, h2, hm, hzc']
                  exact hf
              · cases hp
          · cases hz
        refine op_pure hH ?_ fun _ => by simp [execOp, hop, run_build w t _ _ hbuilt, AV.den]
        exact all_fill ps z'.cells cs hcs (readParts_all (Q := AV.all (fun k => k < n)) hρ2 _ _ hps) (all_cells (all_zeroA hz _))
      · cases h
    · cases h
  · -- load
    rename_i t x
    split at h
    · rename_i v hv
      obtain ⟨p, u, rfl, hu, hr⟩ := loadA_sound hH h
      exact op_pure hH hu fun hp => by simp [execOp, hop, hρ1 _ _ hv, hr hp]
    · cases h
  · -- store
    rename_i t x y
    split at h
    · rename_i a v ha hv
      obtain ⟨h1, h2, h3⟩ := storeA_sound hH (hρ2 _ _ hv) h
      refine ⟨h1, fun hp => ?_, ?_⟩
      · obtain ⟨w', hr, he⟩ := h3 hp
        exact ⟨E, w', .skip, by simp [execOp, hop, hρ1 _ _ ha, hρ1 _ _ hv, hr], .inr ⟨rfl, by rw [h2]; rfl⟩, he⟩
      · unfold storeA at h
        split at h
        · split at h
          · split at h
            · cases h; exact Nat.zero_le _
            · cases h
          · cases h
        · split at h
          · split at h
            · split at h
              · split at h
                · cases h; exact Nat.zero_le _
                · cases h
              · cases h
            · cases h
          · cases h
        · cases h
    · cases h
  · -- nilCheck
    split at h
    · rename_i hx; cases h; exact op_pure hH (hρ2 _ _ hx) fun _ => by simp [execOp, hop, hρ1 _ _ hx, AV.den]
    · rename_i hx; cases h; exact op_pure hH (hρ2 _ _ hx) fun _ => by simp [execOp, hop, hρ1 _ _ hx, AV.den]
    · rename_i hx; cases h; exact op_pure hH (hρ2 _ _ hx) fun _ => by simp [execOp, hop, hρ1 _ _ hx, AV.den]
    · cases h
  · -- binOp
    rename_i op t x y yt
    split at h
    · rename_i k a k' b hx hy
      split at h
      · rename_i hk; subst hk
        exact intOp_sound hH op k a b t yt x y o hop (hρ1 _ _ hx) (hρ1 _ _ hy) h
      · cases h
    · rename_i a b hx hy
      split at h
      · split at h
        · rename_i r hr
          cases h
          have := eqA_sound (E := E) 9 t _ _ r hr 9991 w
          simp only [AV.den] at this
          exact op_pure hH trivial fun _ => by simp [execOp, hop, hρ1 _ _ hx, hρ1 _ _ hy, eqGuard, binOp, Op.equal, Op.maxDepth, this, AV.den]
        · cases h
      · split at h
        · rename_i r hr
          cases h
          have := eqA_sound (E := E) 9 t _ _ r hr 9991 w
          simp only [AV.den] at this
          exact op_pure hH trivial fun _ => by simp [execOp, hop, hρ1 _ _ hx, hρ1 _ _ hy, eqGuard, binOp, Op.equal, Op.maxDepth, this, AV.den]
        · cases h
      · cases h
    · rename_i a b hx hy
      split at h
      · rename_i hg
        split at h
        · split at h
          · rename_i r hr
            cases h
            have := eqA_sound (E := E) 9 t _ _ r hr 9991 w
            simp only [AV.den] at this
            exact op_pure hH trivial fun _ => by simp [execOp, hop, hρ1 _ _ hx, hρ1 _ _ hy, run_eqGuard_agg w _ _ _ _ _ _ hg, binOp, Op.equal, Op.maxDepth, this, AV.den]
          · cases h
        · split at h
          · rename_i r hr
            cases h
            have := eqA_sound (E := E) 9 t _ _ r hr 9991 w
            simp only [AV.den] at this
            exact op_pure hH trivial fun _ => by simp [execOp, hop, hρ1 _ _ hx, hρ1 _ _ hy, run_eqGuard_agg w _ _ _ _ _ _ hg, binOp, Op.equal, Op.maxDepth, this, AV.den]
          · cases h
        · cases h
      · cases h
    · cases h
  · -- not
    split at h
    · rename_i hx; cases h; exact op_pure hH trivial fun _ => by simp [execOp, hop, hρ1 _ _ hx, AV.den, Op.unary]
    · cases h
  · -- neg
    split at h
    · rename_i hx; cases h; exact op_pure hH trivial fun _ => by simp [execOp, hop, hρ1 _ _ hx, AV.den, Op.unary, Op.intArith]
    · cases h
  · -- convert
    rename_i src dst x
    split at h
    · rename_i k m k1 k2 hx hs hd
      split at h
      · cases h
        exact op_pure hH trivial fun _ => by simp [execOp, hop, hρ1 _ _ hx, AV.den, convert, run_underlying hs, run_underlying hd, Conv.intToInt]
      · cases h
    · cases h
  · -- makeFunc
    rename_i f first caps
    split at h
    · rename_i a b ha hb
      cases h
      have e1 := readL_sound hρ1 _ _ ha
      have e2 := readL_sound hρ1 _ _ hb
      have f1 : ∀ l : Array Operand, l.map e = (l.toList.map e).toArray := fun l => by apply Array.ext'; simp
      exact op_pure hH ⟨hρL _ _ ha, hρL _ _ hb⟩ fun _ => by simp only [execOp, hop, Instr.makeFunc, Sem.run_bind, Sem.run_pure, Result.andThen_ok, AV.den, ← e1, ← e2, ← f1]
    · cases h
  · -- fieldAddr
    rename_i s x f
    split at h
    · rename_i v fd hx hf
      split at h
      · rename_i m hs
        obtain ⟨p, u, rfl, hu, hr⟩ := fieldAddrA_sound hH (hρ2 _ _ hx) h
        unfold fieldOf at hf
        split at hf
        · rename_i fields hu'
          refine op_pure hH hu fun hp => ?_
          obtain ⟨a, h1, h2⟩ := hr hp
          simp [execOp, hop, hρ1 _ _ hx, h1, h2, Instr.fieldAt, run_underlying hu', hf, Instr.sureAddr, fieldPlace, run_sizeA hs]
        · cases hf
      · cases h
    · cases h
  · -- field
    rename_i s x f
    split at h
    · rename_i cs fd hx hf
      split at h
      · rename_i v hv
        cases h
        unfold fieldOf at hf
        split at hf
        · rename_i fields hu
          have := run_partA hv E w
          exact op_pure hH (all_partA hv (hρ2 _ _ hx)) fun _ => by simp [execOp, hop, hρ1 _ _ hx, AV.den, Instr.field, run_underlying hu, hf, asAgg, this]
        · cases hf
      · cases h
    · cases h
  · -- index
    split at h
    · rename_i cs k m len el hx hi hu
      split at h
      · rename_i sz hsz
        split at h
        · rename_i hb
          split at h
          · rename_i v hv
            cases h
            exact op_pure hH (all_partA hv (hρ2 _ _ hx)) fun _ => by simp only [execOp, hop, Instr.index, hρ1 _ _ hx, hρ1 _ _ hi, AV.den, asIntOf, Sem.run_bind, Sem.run_pure, Result.andThen_ok, run_underlying hu, if_pos hb, run_sizeA hsz, run_partA hv E]
          · cases h
        · cases h
      · cases h
    · cases h
  · -- indexAddr
    split at h
    · rename_i v m hv hm
      obtain ⟨p, u, rfl, hu, hr⟩ := indexAddrA_sound hH (hρ2 _ _ hv) h
      exact op_pure hH hu fun hp => by simp [execOp, hop, hρ1 _ _ hv, hρ1 _ _ hm, hr hp]
    · cases h
  · -- extract
    split at h
    · rename_i vs hx
      split at h
      · rename_i v hv
        cases h
        refine op_pure hH ((allL_iff _ _).1 (hρ2 _ _ hx) v (List.mem_of_getElem? hv)) fun _ => ?_
        simp [execOp, hop, hρ1 _ _ hx, AV.den, Instr.extract, denL_map, hv]
      · cases h
    · cases h
  · -- slice
    rename_i t x lo hi
    split at h
    · rename_i v lo' hi' hv hlo hhi
      have r1 := readB_sound hρ1 hlo
      have r2 := readB_sound hρ1 hhi
      obtain ⟨p, u, rfl, hu, hr⟩ := sliceA_sound hH (hρ2 _ _ hv) h (lov := lo.map e) (hiv := hi.map e) r1 r2
      exact op_pure hH hu fun hp => by simp only [execOp, hop, hρ1 _ _ hv, Option.map_none, Sem.run_bind, hr hp, Result.andThen_ok, Sem.run_pure]
    · cases h
  · -- s[lo:hi:mx]
    rename_i t x lo hi mx
    split at h
    · rename_i v hv
      split at h
      · rename_i hz
        rw [Bool.and_eq_true, Bool.and_eq_true] at hz
        have hlo : lo = none := by cases lo with
          | none => rfl
          | some _ => cases hz.1.1
        subst hlo
        cases hhi : hi with
        | none => rw [hhi] at hz; cases hz.1.2
        | some hx =>
        rw [hhi] at hz
        obtain ⟨k1, e1⟩ := isZeroA_spec hz.1.2
        obtain ⟨k2, e2⟩ := isZeroA_spec hz.2
        have e1 : ρ hx = _ := e1
        obtain ⟨h1, h2, E', w', hr, he⟩ := slice0A_sound hH h (hiv := e hx) (mxv := e mx) ⟨k1, by rw [hρ1 _ _ e1]; rfl⟩ ⟨k2, by rw [hρ1 _ _ e2]; rfl⟩
        refine ⟨h1, fun hp => ⟨E', w', _, ?_, .inl rfl, he⟩, by rw [h2]; exact Nat.le_refl _⟩
        simp only [execOp, hop, hρ1 _ _ hv, hhi, Option.map_none, Option.map_some, Sem.run_bind, hr, Result.andThen_ok, Sem.run_pure]
      · split at h
        · rename_i lo' hi' mx' hlo hhi hmx
          have r1 := readB_sound hρ1 hlo
          have r2 := readB_sound hρ1 hhi
          obtain ⟨k, hk⟩ := r2
          cases hi with
          | none => cases hk
          | some hx =>
          have hk : some (e hx) = some (.int k hi') := hk
          injection hk with hk
          cases hmv : ρ mx with
          | none => rw [hmv] at hmx; cases hmx
          | some mv =>
          rw [hmv] at hmx
          obtain ⟨k2, hk2⟩ := intA_den (show intA mv = some mx' from hmx) E
          obtain ⟨h1, h2, h3⟩ := slice3A_sound hH h (lov := lo.map e) r1 (hiv := e hx) (mxv := e mx) ⟨k, hk⟩ ⟨k2, by rw [hρ1 _ _ hmv]; exact hk2⟩
          refine ⟨h1, fun hp => ?_, by rw [h2]; exact Nat.le_refl _⟩
          obtain ⟨E', w', hr, he⟩ := h3 hp
          refine ⟨E', w', _, ?_, .inl rfl, he⟩
          simp only [execOp, hop, hρ1 _ _ hv, Option.map_some, Sem.run_bind, hr, Result.andThen_ok, Sem.run_pure]
        · cases h
    · cases h
  · -- makeMap
    rename_i t
    obtain ⟨h1, h2, h3⟩ := makeMapA_sound hH h
    refine ⟨h1, fun hp => ?_, h2⟩
    obtain ⟨E', w', hr, he⟩ := h3 hp
    exact ⟨E', w', _, by simp only [execOp, hop, Option.map_none, Sem.run_bind, hr, Result.andThen_ok, Sem.run_pure], .inl rfl, he⟩
  · -- lookup
    rename_i t x ix ok
    split at h
    · rename_i v k hv hk
      obtain ⟨h1, h2, h3, h4, h5⟩ := lookupA_sound hH h
      obtain ⟨p, rm, nk, add, vv⟩ := z
      simp only [] at h1 h2 h3 h4 h5
      subst h1; subst h2; subst h3
      exact ⟨effWf_pure _ (all_imp (fun k hk => hk.elim) _ h4), fun hp => ⟨E, w, _, by simp only [execOp, hop, hρ1 _ _ hv, hρ1 _ _ hk, Sem.run_bind, h5 hp, Result.andThen_ok, Sem.run_pure], .inl rfl, effOk_pure hH.env _ _⟩, Nat.zero_le _⟩
    · cases h
  · -- mapUpdate
    rename_i t x ix y
    split at h
    · rename_i v k u hv hk hu
      obtain ⟨h1, h2, h3, h4⟩ := mapUpdateA_sound hH h
      refine ⟨h1, fun hp => ?_, h2⟩
      obtain ⟨w', hr, he⟩ := h4 hp
      exact ⟨E, w', .skip, by simp only [execOp, hop, hρ1 _ _ hv, hρ1 _ _ hk, hρ1 _ _ hu, Sem.run_bind, hr, Result.andThen_ok, Sem.run_pure], .inr ⟨rfl, by rw [h3]; rfl⟩, he⟩
    · cases h
  · -- builtins
    rename_i b args argTypes
    split at h
    · rename_i vs hvs
      have e1 := readL_sound hρ1 _ _ hvs
      have e2 : (args.map e).toList = AV.denL E vs := by rw [Array.toList_map]; exact e1
      have hvl := hρL _ _ hvs
      split at h
      · -- min
        split at h
        · rename_i k a r
          split at h
          · rename_i v hv
            cases h
            obtain ⟨m, rfl⟩ := mm_int hv
            have := mm_sound (P := P) (E := E) (f := Builtin.min2) (fun k a b => rfl) k r a _ hv w
            exact op_pure hH trivial fun _ => by simp only [execOp, hop, resolve, Sem.run_bind, Sem.run_pure, Result.andThen_ok, invoke, builtin, Builtin.min_, e2, AV.denL, AV.den, this]
          · cases h
        · cases h
      · -- max
        split at h
        · rename_i k a r
          split at h
          · rename_i v hv
            cases h
            obtain ⟨m, rfl⟩ := mm_int hv
            have := mm_sound (P := P) (E := E) (f := Builtin.max2) (fun k a b => rfl) k r a _ hv w
            exact op_pure hH trivial fun _ => by simp only [execOp, hop, resolve, Sem.run_bind, Sem.run_pure, Result.andThen_ok, invoke, builtin, Builtin.max_, e2, AV.denL, AV.den, this]
          · cases h
        · cases h
      · -- len
        split at h
        · rename_i x
          cases hat : argTypes[0]? with
          | none => rw [hat] at h; simp only [Option.bind_none] at h; unfold lenA at h; cases h
          | some t =>
            rw [hat] at h
            obtain ⟨u, rfl, hu, hr⟩ := lenA_sound (ty := o.type) hH h
            refine op_pure hH hu fun _ => ?_
            have e3 : args.map e = #[x.den E] := by apply Array.ext'; rw [e2]; rfl
            have hr' : (Builtin.len_ argTypes o.type #[x.den E]).run P w = .ok (u.den E) w := by
              rw [← hr]
              unfold Builtin.len_
              simp [hat]
            simp only [execOp, hop, resolve, Sem.run_bind, Sem.run_pure, Result.andThen_ok, invoke, builtin, e3, hr']
        · cases h
      · -- append
        split at h
        · rename_i s x t t' hts
          split at h
          · rename_i htt
            subst htt
            have e3 : args.map e = #[s.den E, x.den E] := by apply Array.ext'; rw [e2]; rfl
            have e4 : argTypes = #[t, t] := by apply Array.ext'; exact hts
            split at h
            · obtain ⟨h1, h2, h3⟩ := appendVwA_sound (ty := o.type) hH hvl.1 h
              refine ⟨h1, fun hp => ?_, by rw [h2]; exact Nat.zero_le _⟩
              obtain ⟨w', hr, he⟩ := h3 hp
              exact ⟨E, w', .value (z.v.den E), by simp only [execOp, hop, resolve, Sem.run_bind, Sem.run_pure, Result.andThen_ok, invoke, builtin, e3, e4, hr], .inl rfl, he⟩
            · obtain ⟨h1, h2, h3⟩ := appendOpA_sound (ty := o.type) hH (hfr (by rw [appendOpA_nk h]; exact Nat.one_ne_zero)) h
              refine ⟨h1, fun hp => ?_, h2⟩
              obtain ⟨E', w', hr, he⟩ := h3 hp
              exact ⟨E', w', .value (z.v.den E'), by simp only [execOp, hop, resolve, Sem.run_bind, Sem.run_pure, Result.andThen_ok, invoke, builtin, e3, e4, hr], .inl rfl, he⟩
          · cases h
        · cases h
      · -- clear
        split at h
        · rename_i x t hts
          obtain ⟨h1, h2, h3, h4⟩ := clearA_sound (ty := o.type) hH h
          have e3 : args.map e = #[x.den E] := by apply Array.ext'; rw [e2]; rfl
          have e4 : argTypes = #[t] := by apply Array.ext'; exact hts
          refine ⟨h1, fun hp => ?_, by rw [h2]; exact Nat.zero_le _⟩
          obtain ⟨w', hr, he⟩ := h4 hp
          exact ⟨E, w', .value (z.v.den E), by rw [h3]; simp only [execOp, hop, resolve, Sem.run_bind, Sem.run_pure, Result.andThen_ok, invoke, builtin, e3, e4, hr]; rfl, .inl rfl, he⟩
        · cases h
      · cases h
    · cases h
  · cases h
end
end Go.Sy
