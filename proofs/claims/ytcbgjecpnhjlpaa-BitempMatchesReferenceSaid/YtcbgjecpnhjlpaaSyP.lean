/-
  The executor is sound: a state of some shape.
-/
import Derived.Test.YtcbgjecpnhjlpaaSyO
set_option linter.unusedVariables false
namespace Go.Sy
open Go.RowKit
section
variable {P : Program} {X : List (Nat × Go.Obj)} {w0 w : World} {N : Nat} {D : List Deferred} {a : Act}

theorem lookK_mem {k : Nat} : ∀ {l : List (Nat × Option Nat)} {u : Option Nat}, lookK k l = some u → (k, u) ∈ l
  | [], u, h => by cases h
  | (k', v) :: r, u, h => by
    unfold lookK at h
    split at h
    · rename_i hb; cases h; rw [Nat.eq_of_beq_eq_true hb]; exact List.mem_cons_self
    · exact List.mem_cons_of_mem _ (lookK_mem h)
theorem distinctN_nodup : ∀ {l : List Nat}, distinctN l = true → l.Nodup
  | [], _ => List.nodup_nil
  | a :: r, h => by
    unfold distinctN at h
    rw [Bool.and_eq_true] at h
    refine List.nodup_cons.2 ⟨fun hm => ?_, distinctN_nodup h.2⟩
    rw [any_beq.2 hm] at h
    cases h.1
theorem filterMap_inj : ∀ {l : List (Nat × Option Nat)} {k1 k2 v : Nat}, (l.filterMap (·.2)).Nodup → (k1, some v) ∈ l → (k2, some v) ∈ l → k1 = k2
  | (k, none) :: r, k1, k2, v, hn, h1, h2 => by
    rcases List.mem_cons.1 h1 with h1 | h1
    · cases h1
    · rcases List.mem_cons.1 h2 with h2 | h2
      · cases h2
      · exact filterMap_inj (by simpa using hn) h1 h2
  | (k, some u) :: r, k1, k2, v, hn, h1, h2 => by
    have hn : u ∉ r.filterMap (·.2) ∧ (r.filterMap (·.2)).Nodup := by simpa using hn
    rcases List.mem_cons.1 h1 with h1 | h1 <;> rcases List.mem_cons.1 h2 with h2 | h2
    · cases h1; cases h2; rfl
    · cases h1; exact absurd ((List.mem_filterMap (f := fun x : Nat × Option Nat => x.2)).2 ⟨_, h2, rfl⟩) hn.1
    · cases h2; exact absurd ((List.mem_filterMap (f := fun x : Nat × Option Nat => x.2)).2 ⟨_, h1, rfl⟩) hn.1
    · exact filterMap_inj hn.2 h1 h2
theorem hasKey_iff {k : Nat} : ∀ {l : List Obj}, hasKey k l = true ↔ ∃ o ∈ l, o.key = k
  | [] => by simp [hasKey]
  | o :: r => by
    unfold hasKey
    rw [Bool.or_eq_true, hasKey_iff (l := r)]
    constructor
    · rintro (h | ⟨o', h1, h2⟩)
      · exact ⟨o, by simp, Nat.eq_of_beq_eq_true h⟩
      · exact ⟨o', by simp [h1], h2⟩
    · rintro ⟨o', h1, h2⟩
      rcases List.mem_cons.1 h1 with rfl | h1
      · exact .inl (by rw [h2]; exact beq_self k)
      · exact .inr ⟨o', h1, h2⟩
theorem blk_lt {E : Env} {key : Nat} {own : Bool} {b : Body} {g : Nat} (hb : BodyOk E w key own b) (hg : blkO (E key) = some g) : g < w.heap.size := by
  cases b with
  | cells cs => obtain ⟨g', T, h1, h2⟩ := hb; rw [h1] at hg; cases hg; exact (Array.getElem?_eq_some_iff.1 h2).1
  | row e ks l => exact hb.reads.blk g hg
  | arr e sz els => exact hb.1.reads.blk g hg
  | nil => have hb : E key = _ := hb; rw [hb] at hg; cases hg
  | mp kt et q m ke l => obtain ⟨g', es, clock, h1, h2, _⟩ := hb; rw [h1] at hg; cases hg; exact (Array.getElem?_eq_some_iff.1 h2).1
  | fin st pend => obtain ⟨g', r, h1, h2, _⟩ := hb; rw [h1] at hg; cases hg; exact (Array.getElem?_eq_some_iff.1 h2).1
  | loop st pend N tm params assign body => obtain ⟨g', fn, tmps, dfr, h1, h2, _⟩ := hb; rw [h1] at hg; cases hg; exact (Array.getElem?_eq_some_iff.1 h2).1

/-- A heap of objects each of which is an old one under another name, or nil. -/
theorem HeapOk.remap {E1 E2 : Env} {H : Heap} (hH : HeapOk X E1 w0 H w) {l : List Obj} {n' : Nat} (env : ∀ k, (E2 k).oneCell' = true) (objs : ∀ o ∈ l, BodyOk E2 w o.key o.own o.body)
    (org : Nat → Option Nat) (horg : ∀ o ∈ l, (org o.key = none ∧ blkO (E2 o.key) = none) ∨ ∃ o' ∈ H.objs, org o.key = some o'.key ∧ E2 o.key = E1 o'.key ∧ (o.own = true → o'.own = true))
    (hinj : ∀ o ∈ l, ∀ o' ∈ l, ∀ k, org o.key = some k → org o'.key = some k → o.key = o'.key)
    (uniq : ∀ o ∈ l, ∀ o' ∈ l, o.key = o'.key → o = o') (lt : ∀ o ∈ l, o.key < n' ∧ BodyAll (fun k => k < n') o.body) : HeapOk X E2 w0 ⟨l, n'⟩ w := by
  refine ⟨hH.below, env, objs, ?_, ?_, uniq, lt, ?_⟩
  · intro o ho hown b hb
    rcases horg o ho with ⟨_, h⟩ | ⟨o', ho', h1, h2, h3⟩
    · rw [h] at hb; cases hb
    · rw [h2] at hb; exact hH.high o' ho' (h3 hown) b hb
  · intro o ho o2 ho2 hown hne b hb hb2
    rcases horg o ho with ⟨_, h⟩ | ⟨o', ho', h1, h2, h3⟩
    · rw [h] at hb; cases hb
    · rcases horg o2 ho2 with ⟨_, h⟩ | ⟨o2', ho2', h1', h2', h3'⟩
      · rw [h] at hb2; cases hb2
      · rw [h2] at hb
        rw [h2'] at hb2
        refine hH.inj o' ho' o2' ho2' (h3 hown) (fun e => hne ?_) b hb hb2
        rw [← e] at h1'
        exact hinj o ho o2 ho2 _ h1 h1'
  · intro y hy
    refine ⟨(hH.prot y hy).1, fun o ho hb => ?_⟩
    rcases horg o ho with ⟨_, h⟩ | ⟨o', ho', h1, h2, h3⟩
    · rw [h] at hb; cases hb
    · rw [h2] at hb; exact (hH.prot y hy).2 o' ho' hb

theorem match_sound {S : Spec} {st : List Obj} {wr : List Nat} {ver : Nat} {c : Cfg} {xs : List U} {tm : Nat → Option AV} {E1 : Env} (h : S.match_ P st ver c = some xs) (hH : HeapOk X E1 w0 c.heap w) (hS : SlotsOk E1 c.heap.next N D (toSlots c.tmps) a)
    (hst1 : ∀ o ∈ st, o ∈ c.heap.objs) (hst2 : ∀ o ∈ st, o.key < S.base ∧ BodyAll (fun k => k < S.base) o.body) (htm : ∀ t v, wr.any (Nat.beq t) = false → tm t = some v → c.tmps t = some v ∧ AV.lt S.base v) :
    ∃ E2 : Env, (∀ k, k < S.base → E2 k = E1 k) ∧ SlotsOk E2 (S.gen st wr tm xs).heap.next N D (toSlots (S.gen st wr tm xs).tmps) a ∧ HeapOk X E2 w0 (S.gen st wr tm xs).heap w ∧ (∀ o ∈ (S.gen st wr tm xs).heap.objs, o.ver = S.base ∨ o ∈ st) := by
  unfold Spec.match_ at h
  split at h
  case h_2 => cases h
  rename_i m1 h1
  split at h
  case h_2 => cases h
  rename_i m2 h2
  split at h
  case h_2 => cases h
  rename_i m3 h3
  split at h
  case isFalse => cases h
  rename_i hc
  cases h
  simp only [Bool.and_eq_true] at hc
  obtain ⟨⟨⟨⟨⟨c1, c2⟩, c3⟩, c4⟩, c5⟩, c6⟩ := hc
  obtain ⟨e1, f1⟩ := matchSlots_sound S.slots ⟨[], []⟩ m1 h1
  obtain ⟨e2, f2⟩ := matchObjs_sound (ver := S.base) S.objs m1 m2 h2
  obtain ⟨km3, ⟨r3, hr3⟩, f3⟩ := matchRows_sound (ver := S.base) S.rows S.base m2 m3 rfl h3
  have p3 : Pre m3.us m3.us.reverse := ⟨[], by simp⟩
  have p2 : Pre m2.us m3.us.reverse := ⟨r3.reverse, by rw [hr3]; simp⟩
  have p1 : Pre m1.us m3.us.reverse := p2.of_ext e2
  obtain ⟨s1, s2⟩ := f1 _ p1
  obtain ⟨o1, o2⟩ := f2 _ p2
  have r1 := f3 _ p3
  have s1 : (fillSlots m3.us.reverse S.slots 0).2 = m1.us.length := s1
  have s2 : ∀ t v, lookupT t (fillSlots m3.us.reverse S.slots 0).1 = some v → ∃ v', c.tmps t = some v' ∧ AV.all (KeyIn S.base m1.km) v ∧ ∀ E1 E2, KEnv S.base E1 E2 m1.km → v.den E2 = v'.den E1 := s2
  -- the state, spelled out
  have hgen : S.gen st wr tm m3.us.reverse = ⟨fun t => match lookupT t (fillSlots m3.us.reverse S.slots 0).1 with | some v => some v | none => if wr.any (Nat.beq t) then none else tm t,
      ⟨(fillObjs S.base m3.us.reverse S.objs m1.us.length).1 ++ fillRows S.base m3.us.reverse S.base S.rows m2.us.length ++ st, S.base + S.rows.length + 1⟩⟩ := by
    have hs : fillSlots m3.us.reverse S.slots 0 = ((fillSlots m3.us.reverse S.slots 0).1, m1.us.length) := Prod.ext rfl s1
    have ho : fillObjs S.base m3.us.reverse S.objs m1.us.length = ((fillObjs S.base m3.us.reverse S.objs m1.us.length).1, m2.us.length) := Prod.ext rfl o1
    unfold Spec.gen
    rw [hs]
    simp only []
    rw [ho]
    rfl
  rw [hgen]
  simp only []
  have kmr : ∀ k u, lookK k m2.km = some u → S.base ≤ k ∧ k < S.base + S.rows.length := by
    intro k u hu
    have := List.all_eq_true.1 c2 _ (lookK_mem hu)
    simp only [Bool.and_eq_true] at this
    exact ⟨Nat.le_of_ble_eq_true this.2, by simpa using this.1⟩
  let E2 : Env := fun k => if k < S.base then E1 k else match lookK k m2.km with | some (some k') => E1 k' | _ => .slice none 0 0
  have hold : ∀ k, k < S.base → E2 k = E1 k := fun k hk => if_pos hk
  have hnew : ∀ k, ¬ k < S.base → E2 k = (match lookK k m2.km with | some (some k') => E1 k' | _ => .slice none 0 0) := fun k hk => if_neg hk
  have hkenv : KEnv S.base E1 E2 m2.km := by
    refine ⟨hold, fun k u hu => ?_⟩
    have := kmr k u hu
    rw [hnew k (by omega), hu]
    cases u <;> rfl
  have keyin : ∀ k, KeyIn S.base m2.km k → k < S.base + S.rows.length + 1 := by
    rintro k (hk | ⟨u, hu⟩)
    · omega
    · have := kmr k u hu; omega
  have hslot : ∀ t v, c.tmps t = some v → a.tmps.getD t undef = v.den E1 := fun t v ht => by
    have := hS.ok t
    have e : toSlots c.tmps t = .is v := by simp [toSlots, ht]
    rw [e] at this
    exact this.1
  refine ⟨E2, hold, ⟨hS.defers, hS.size, fun t => ?_⟩, ?_, ?_⟩
  · -- slots
    let F : Nat → Option AV := fun t => match lookupT t (fillSlots m3.us.reverse S.slots 0).1 with | some v => some v | none => if wr.any (Nat.beq t) then none else tm t
    show SlotOk E2 (S.base + S.rows.length + 1) a t (toSlots F t)
    cases hl : lookupT t (fillSlots m3.us.reverse S.slots 0).1 with
    | some v =>
      have e : toSlots F t = .is v := by simp only [toSlots, F, hl]
      rw [e]
      obtain ⟨v', q1, q2, q3⟩ := s2 t v hl
      refine ⟨?_, all_imp (fun k hk => keyin k (keyIn_ext e2 hk)) _ q2⟩
      rw [hslot t v' q1, q3 E1 E2 (hkenv.of_ext e2)]
    | none =>
      cases hw : wr.any (Nat.beq t) with
      | true =>
        have e : toSlots F t = .junk := by simp only [toSlots, F, hl, hw, if_true]
        rw [e]; trivial
      | false =>
        cases ht : tm t with
        | none =>
          have e : toSlots F t = .junk := by simp only [toSlots, F, hl, hw, Bool.false_eq_true, if_false, ht]
          rw [e]; trivial
        | some v =>
          have e : toSlots F t = .is v := by simp only [toSlots, F, hl, hw, Bool.false_eq_true, if_false, ht]
          rw [e]
          obtain ⟨q1, q2⟩ := htm t v hw ht
          refine ⟨?_, lt_mono (by omega) _ q2⟩
          rw [hslot t v q1]
          exact (den_congr hold v q2).symm
  · -- the heap
    have okey : ∀ o ∈ (fillObjs S.base m3.us.reverse S.objs m1.us.length).1, o.key < S.base ∧ ∀ o' ∈ st, o'.key ≠ o.key := by
      intro o ho
      obtain ⟨_, ⟨s, hs, hsk⟩, _⟩ := o2 o ho
      have := List.all_eq_true.1 c5 s hs
      simp only [Bool.and_eq_true] at this
      rw [← hsk]
      refine ⟨by simpa using this.1, fun o' ho' hk => ?_⟩
      have h2 : hasKey s.key st = true := hasKey_iff.2 ⟨o', ho', hk⟩
      rw [h2] at this
      cases this.2
    have hnd : (((fillObjs S.base m3.us.reverse S.objs m1.us.length).1).map (fun o => o.key)).Nodup := by
      rw [fillObjs_keys]; exact distinctN_nodup c4
    have rkey : ∀ o ∈ fillRows S.base m3.us.reverse S.base S.rows m2.us.length, S.base ≤ o.key ∧ o.key < S.base + S.rows.length := fun o ho => by
      obtain ⟨_, _, q1, q2, _⟩ := r1 o ho
      exact ⟨q1, q2⟩
    have rnd : ∀ (l : List (TypeId × List CK)) (k j : Nat), ((fillRows S.base m3.us.reverse k l j).map (fun o => o.key)).Nodup ∧ ∀ o ∈ fillRows S.base m3.us.reverse k l j, k ≤ o.key := by
      intro l
      induction l with
      | nil => intro k j; simp [fillRows]
      | cons y l ih =>
        intro k j
        obtain ⟨e, ks⟩ := y
        obtain ⟨i1, i2⟩ := ih (k + 1) (j + 1)
        refine ⟨?_, fun o ho => ?_⟩
        · simp only [fillRows, List.map_cons, List.nodup_cons]
          refine ⟨fun hm => ?_, i1⟩
          obtain ⟨o, ho, hk⟩ := List.mem_map.1 hm
          have := i2 o ho
          omega
        · simp only [fillRows] at ho
          rcases List.mem_cons.1 ho with rfl | ho
          · exact Nat.le_refl _
          · have := i2 o ho; omega
    have mem : ∀ o, o ∈ (fillObjs S.base m3.us.reverse S.objs m1.us.length).1 ++ fillRows S.base m3.us.reverse S.base S.rows m2.us.length ++ st → o ∈ (fillObjs S.base m3.us.reverse S.objs m1.us.length).1 ∨ o ∈ fillRows S.base m3.us.reverse S.base S.rows m2.us.length ∨ o ∈ st := by
      intro o ho
      rcases List.mem_append.1 ho with ho | ho
      · rcases List.mem_append.1 ho with ho | ho
        · exact .inl ho
        · exact .inr (.inl ho)
      · exact .inr (.inr ho)
    refine hH.remap (fun k => ?_) ?_ (fun k => if k < S.base then some k else match lookK k m2.km with | some (some k') => some k' | _ => none) ?_ ?_ ?_ ?_
    · show (if k < S.base then E1 k else _).oneCell' = true
      split
      · exact hH.env k
      · split
        · exact hH.env _
        · rfl
    · intro o ho
      rcases mem o ho with ho | ho | ho
      · obtain ⟨_, _, _, o', ho', q1, q2, q3⟩ := o2 o ho
        have hb := hH.objs o' ho'
        rw [q1] at hb
        exact q3 E1 E2 w hkenv (hold _ (okey o ho).1) hb
      · obtain ⟨_, q2, q3, q4, _, q6⟩ := r1 o ho
        rw [q2]
        rcases q6 with ⟨o', ho', t1, t2, t3⟩ | ⟨t1, t2⟩
        · have hb := hH.objs o' ho'
          rw [t2] at hb
          exact t3 E1 E2 w (by rw [hnew _ (by omega), t1]) hb
        · refine t2 E2 w ?_
          rw [hnew _ (by omega)]
          split
          · rename_i k' hk'; exact absurd hk' (t1 k')
          · rfl
      · exact (hH.objs o (hst1 o ho)).keep (hold _ (hst2 o ho).1) (bodyAll_imp (fun k hk => hold k hk) (hst2 o ho).2) (fun _ _ => rfl) (Nat.le_refl _)
    · intro o ho
      rcases mem o ho with ho | ho | ho
      · obtain ⟨_, _, _, o', ho', q1, q2, q3⟩ := o2 o ho
        have hlt := (okey o ho).1
        exact .inr ⟨o', ho', by rw [q1]; exact if_pos hlt, by rw [q1]; exact hold _ hlt, q2⟩
      · obtain ⟨_, q2, q3, q4, _, q6⟩ := r1 o ho
        have hlt : ¬ o.key < S.base := by omega
        rcases q6 with ⟨o', ho', t1, t2, t3⟩ | ⟨t1, t2⟩
        · exact .inr ⟨o', ho', by simp only [if_neg hlt, t1], by rw [hnew _ hlt, t1], fun _ => t2⟩
        · refine .inl ⟨?_, ?_⟩
          · simp only [if_neg hlt]
          · rw [hnew _ hlt]
            split
            · rename_i k' hk'; exact absurd hk' (t1 k')
            · rfl
      · have hlt := (hst2 o ho).1
        exact .inr ⟨o, hst1 o ho, if_pos hlt, hold _ hlt, fun h => h⟩
    · intro o ho o' ho' k hk hk'
      have target : ∀ o, o ∈ fillRows S.base m3.us.reverse S.base S.rows m2.us.length → ∀ k, (if o.key < S.base then some o.key else match lookK o.key m2.km with | some (some k') => some k' | _ => none) = some k → lookK o.key m2.km = some (some k) := by
        intro o ho k hk
        have := rkey o ho
        rw [if_neg (by omega)] at hk
        split at hk
        · rename_i k' hk'; cases hk; exact hk'
        · cases hk
      have low : ∀ o, (o ∈ (fillObjs S.base m3.us.reverse S.objs m1.us.length).1 ∨ o ∈ st) → ∀ k, (if o.key < S.base then some o.key else match lookK o.key m2.km with | some (some k') => some k' | _ => none) = some k → o.key = k ∧ (hasKey k S.objs = true ∨ hasKey k st = true) := by
        intro o ho k hk
        have hlt : o.key < S.base := by
          rcases ho with ho | ho
          · exact (okey o ho).1
          · exact (hst2 o ho).1
        rw [if_pos hlt] at hk
        cases hk
        refine ⟨rfl, ?_⟩
        rcases ho with ho | ho
        · obtain ⟨_, ⟨s, hs, hsk⟩, _⟩ := o2 o ho
          exact .inl (hasKey_iff.2 ⟨s, hs, hsk⟩)
        · exact .inr (hasKey_iff.2 ⟨o, ho, rfl⟩)
      have apart : ∀ o, o ∈ fillRows S.base m3.us.reverse S.base S.rows m2.us.length → ∀ k, lookK o.key m2.km = some (some k) → ¬ (hasKey k S.objs = true ∨ hasKey k st = true) := by
        intro o ho k hk
        have := List.all_eq_true.1 c3 k (List.mem_filterMap.2 ⟨_, lookK_mem hk, rfl⟩)
        simp only [Bool.and_eq_true] at this
        rintro (h | h)
        · rw [h] at this; cases this.1
        · rw [h] at this; cases this.2
      rcases mem o ho with h | h | h <;> rcases mem o' ho' with h' | h' | h'
      · rw [(low o (.inl h) k hk).1, (low o' (.inl h') k hk').1]
      · exact absurd (low o (.inl h) k hk).2 (apart o' h' k (target o' h' k hk'))
      · rw [(low o (.inl h) k hk).1, (low o' (.inr h') k hk').1]
      · exact absurd (low o' (.inl h') k hk').2 (apart o h k (target o h k hk))
      · exact filterMap_inj (distinctN_nodup c1) (lookK_mem (target o h k hk)) (lookK_mem (target o' h' k hk'))
      · exact absurd (low o' (.inr h') k hk').2 (apart o h k (target o h k hk))
      · rw [(low o (.inr h) k hk).1, (low o' (.inl h') k hk').1]
      · exact absurd (low o (.inr h) k hk).2 (apart o' h' k (target o' h' k hk'))
      · rw [(low o (.inr h) k hk).1, (low o' (.inr h') k hk').1]
    · intro o ho o' ho' hk
      rcases mem o ho with h | h | h <;> rcases mem o' ho' with h' | h' | h'
      · exact eq_of_map_key hnd h h' hk
      · have := (okey o h).1; have := rkey o' h'; omega
      · exact absurd hk.symm ((okey o h).2 o' h')
      · have := (okey o' h').1; have := rkey o h; omega
      · exact eq_of_map_key (rnd S.rows S.base m2.us.length).1 h h' hk
      · have := (hst2 o' h').1; have := rkey o h; omega
      · exact absurd hk ((okey o' h').2 o h)
      · have := (hst2 o h).1; have := rkey o' h'; omega
      · exact hH.uniq o (hst1 o h) o' (hst1 o' h') hk
    · intro o ho
      rcases mem o ho with ho | ho | ho
      · obtain ⟨_, _, q, _⟩ := o2 o ho
        have := (okey o ho).1
        exact ⟨by omega, bodyAll_imp keyin q⟩
      · obtain ⟨_, _, _, q4, q5, _⟩ := r1 o ho
        exact ⟨by omega, bodyAll_flat q5⟩
      · have := hst2 o ho
        exact ⟨by omega, bodyAll_imp (fun k hk => by omega) this.2⟩
  · intro o ho
    rcases List.mem_append.1 ho with ho | ho
    · rcases List.mem_append.1 ho with ho | ho
      · exact .inl (o2 o ho).1
      · exact .inl (r1 o ho).1
    · exact .inr ho
theorem match_still {S : Spec} {st : List Obj} {ver : Nat} {c : Cfg} {xs : List U} (h : S.match_ P st ver c = some xs) : stillOk c.heap.objs ver st = true := by
  unfold Spec.match_ at h
  split at h
  case h_2 => cases h
  split at h
  case h_2 => cases h
  split at h
  case h_2 => cases h
  split at h
  case isFalse => cases h
  rename_i hc
  simp only [Bool.and_eq_true] at hc
  exact hc.2
theorem stillOk_spec {objs : List Obj} {ver : Nat} : ∀ {st : List Obj}, stillOk objs ver st = true → ∀ o ∈ st, ∃ o' ∈ objs, o'.key = o.key ∧ o'.ver < ver
  | [], _, o, ho => by cases ho
  | s :: r, h, o, ho => by
    unfold stillOk at h
    rw [Bool.and_eq_true] at h
    rcases List.mem_cons.1 ho with rfl | ho
    · have h1 := h.1
      split at h1
      · rename_i o' hf
        obtain ⟨hm, hk⟩ := findObj_mem hf
        exact ⟨o', hm, hk, by simpa using h1⟩
      · cases h1
    · exact stillOk_spec h.2 o ho
end
end Go.Sy
