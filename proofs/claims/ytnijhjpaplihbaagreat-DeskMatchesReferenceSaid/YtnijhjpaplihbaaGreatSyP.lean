/-
 The executor is sound: a state of some shape.
-/
import Derived.Test.YtnijhjpaplihbaaGreatSyO
set_option linter.unusedVariables false
namespace Go.Sy
open Go.RowKit
section
variable {P : Program} {X : List (Nat × Go.Obj)} {w0 w : World} {N : Nat} {D : List Deferred} {a : Act}
theorem xmY {k : Nat} : ∀ {l : List (Nat × Option Nat)} {u : Option Nat}, xiT k l = some u → (k, u) ∈ l
 | [], u, h => by cases h
 | (k', v) :: r, u, h => by
  unfold xiT at h
  split at h
  ·rename_i hb; cases h; rw [Nat.eq_of_beq_eq_true hb]; exact List.mem_cons_self
  ·exact List.mem_cons_of_mem _ (xmY h)
theorem xj2 : ∀ {l : List Nat}, xm9 l = true → l.Nodup
 | [], _ => List.nodup_nil
 | a :: r, h => by
  unfold xm9 at h
  rw [Bool.and_eq_true] at h
  refine List.nodup_cons.2 ⟨fun hm => ?_, xj2 h.2⟩
  rw [xkT.2 hm] at h
  cases h.1
theorem xlN : ∀ {l : List (Nat × Option Nat)} {k1 k2 v : Nat}, (l.filterMap (·.2)).Nodup → (k1, some v) ∈ l → (k2, some v) ∈ l → k1 = k2
 | (k, none) :: r, k1, k2, v, hn, h1, h2 => by
  rcases List.mem_cons.1 h1 with h1 | h1
  ·cases h1
  ·rcases List.mem_cons.1 h2 with h2 | h2
   ·cases h2
   ·exact xlN (by simpa using hn) h1 h2
 | (k, some u) :: r, k1, k2, v, hn, h1, h2 => by
  have hn : u ∉ r.filterMap (·.2) ∧ (r.filterMap (·.2)).Nodup := by simpa using hn
  rcases List.mem_cons.1 h1 with h1 | h1 <;> rcases List.mem_cons.1 h2 with h2 | h2
  ·cases h1; cases h2; rfl
  ·cases h1; exact absurd ((List.mem_filterMap (f := fun x : Nat × Option Nat => x.2)).2 ⟨_, h2, rfl⟩) hn.1
  ·cases h2; exact absurd ((List.mem_filterMap (f := fun x : Nat × Option Nat => x.2)).2 ⟨_, h1, rfl⟩) hn.1
  ·exact xlN hn.2 h1 h2
theorem xjA {k : Nat} : ∀ {l : List Obj}, xii k l = true ↔ ∃ o ∈ l, o.key = k
 | [] => by simp [xii]
 | o :: r => by
  unfold xii
  rw [Bool.or_eq_true, xjA (l := r)]
  constructor
  ·rintro (h | ⟨o', h1, h2⟩)
   ·exact ⟨o, by simp, Nat.eq_of_beq_eq_true h⟩
   ·exact ⟨o', by simp [h1], h2⟩
  ·rintro ⟨o', h1, h2⟩
   rcases List.mem_cons.1 h1 with rfl | h1
   ·exact .inl (by rw [h2]; exact xdM k)
   ·exact .inr ⟨o', h1, h2⟩
theorem xqG {k : Nat} : ∀ {l : List Obj}, xtc k l = true ↔ ∃ o ∈ l, o.key = k ∧ o.own = true
 | [] => by simp [xtc]
 | o :: r => by
  unfold xtc
  rw [Bool.or_eq_true, Bool.and_eq_true, xqG (l := r)]
  constructor
  ·rintro (h | ⟨o', h1, h2⟩)
   ·exact ⟨o, by simp, Nat.eq_of_beq_eq_true h.1, h.2⟩
   ·exact ⟨o', by simp [h1], h2⟩
  ·rintro ⟨o', h1, h2, h3⟩
   rcases List.mem_cons.1 h1 with rfl | h1
   ·exact .inl ⟨by rw [h2]; exact xdM k, h3⟩
   ·exact .inr ⟨o', h1, h2, h3⟩
theorem xag.remap {E1 E2 : Env} {H : Heap} (hH : xag X E1 w0 H w) {l : List Obj} {n' : Nat} (env : ∀ k, (E2 k).oneCell' = true) (objs : ∀ o ∈ l, xbi E2 w o.key o.own o.body)
  (org : Nat → Option Nat) (horg : ∀ o ∈ l, (org o.key = none ∧ blkO (E2 o.key) = none ∧ xtW true .nil o.body) ∨ ∃ o' ∈ H.objs, org o.key = some o'.key ∧ E2 o.key = E1 o'.key ∧ (o.own = true → o'.own = true) ∧ xtW o'.own o'.body o.body)
  (hinj : ∀ o ∈ l, ∀ o' ∈ l, o.own = true → ∀ k, org o.key = some k → org o'.key = some k → o.key = o'.key)
  (uniq : ∀ o ∈ l, ∀ o' ∈ l, o.key = o'.key → o = o') (lt : ∀ o ∈ l, o.key < n' ∧ xbh (fun k => k < n') o.body) : xag X E2 w0 ⟨l, n'⟩ w := by
 have inn : ∀ o ∈ l, ∀ b, Inn E2 w o.key o.body b → ∃ o' ∈ H.objs, (o.own = true → o'.own = true) ∧ E2 o.key = E1 o'.key ∧ Inn E1 w o'.key o'.body b := by
  intro o ho b hb
  generalize hbd : o.body = bd at hb
  cases bd with
  | nst e ks l0 =>
   obtain ⟨a, j, u, q1, q2, q3, q4⟩ := hb
   have hne : l0 ≠ [] := by rintro rfl; simp at q2
   rcases horg o ho with ⟨_, _, h5⟩ | ⟨o', ho', h1, h2, h3, h5⟩
   ·rcases h5.2 e ks l0 hbd with h | h
    ·cases h
    ·exact absurd h hne
   ·refine ⟨o', ho', h3, h2, ?_⟩
    rcases h5.2 e ks l0 hbd with h | h
    ·rw [h]; exact ⟨a, j, u, by rw [← h2]; exact q1, q2, q3, q4⟩
    ·exact absurd h hne
  | _ => exact hb.elim
 refine ⟨hH.below, env, objs, ?_, ?_, uniq, lt, ?_, ?_, ?_, ?_⟩
 ·intro o ho hown b hb
  rcases horg o ho with ⟨_, h, _⟩ | ⟨o', ho', h1, h2, h3, _⟩
  ·rw [h] at hb; cases hb
  ·rw [h2] at hb; exact hH.high o' ho' (h3 hown) b hb
 ·intro o ho o2 ho2 hown hne b hb hb2
  rcases horg o ho with ⟨_, h, _⟩ | ⟨o', ho', h1, h2, h3, _⟩
  ·rw [h] at hb; cases hb
  ·rcases horg o2 ho2 with ⟨_, h, _⟩ | ⟨o2', ho2', h1', h2', h3', _⟩
   ·rw [h] at hb2; cases hb2
   ·rw [h2] at hb
    rw [h2'] at hb2
    refine hH.inj o' ho' o2' ho2' (h3 hown) (fun e => hne ?_) b hb hb2
    rw [← e] at h1'
    exact hinj o ho o2 ho2 hown _ h1 h1'
 ·intro y hy
  refine ⟨(hH.prot y hy).1, fun o ho hb => ?_⟩
  rcases horg o ho with ⟨_, h, _⟩ | ⟨o', ho', h1, h2, h3, _⟩
  ·rw [h] at hb; cases hb
  ·rw [h2] at hb; exact (hH.prot y hy).2 o' ho' hb
 ·intro o ho b hb o2 ho2 hown hb2
  obtain ⟨o', ho', _, _, hI⟩ := inn o ho b hb
  rcases horg o2 ho2 with ⟨_, h, _⟩ | ⟨o2', ho2', h1', h2', h3', _⟩
  ·rw [h] at hb2; cases hb2
  ·rw [h2'] at hb2
   exact hH.deep o' ho' b hI o2' ho2' (h3' hown) hb2
 ·intro y hy o ho hb
  obtain ⟨o', ho', _, _, hI⟩ := inn o ho _ hb
  exact hH.protD y hy o' ho' hI
 ·intro o ho b hb
  rcases hb with ⟨h1, h2⟩ | ⟨h1, h2⟩
  ·rcases horg o ho with ⟨_, h, _⟩ | ⟨o', ho', _, h4, _, h5⟩
   ·rw [h] at h2; cases h2
   ·rw [h4] at h2
    rcases h5.1 h1 with h6 | h6
    ·exact hH.fsh o' ho' b (.inl ⟨h6, h2⟩)
    ·exact hH.high o' ho' h6 b h2
  ·obtain ⟨o', ho', h3, _, hI⟩ := inn o ho b h2
   exact hH.fsh o' ho' b (.inr ⟨h3 h1, hI⟩)
theorem xhv {S : Spec} {st : List Obj} {wr : List Nat} {ver : Nat} {c : Cfg} {xs : List U} {tm : Nat → Option AV} {E1 : Env} (h : S.match_ P st ver c = some xs) (hH : xag X E1 w0 c.heap w) (hS : xaO E1 c.heap.next N D (xas c.tmps) a)
  (hst1 : ∀ o ∈ st, o ∈ c.heap.objs) (hst2 : ∀ o ∈ st, o.key < S.base ∧ xbh (fun k => k < S.base) o.body) (htm : ∀ t v, wr.any (Nat.beq t) = false → tm t = some v → c.tmps t = some v ∧ AV.lt S.base v) :
  ∃ E2 : Env, (∀ k, k < S.base → E2 k = E1 k) ∧ xaO E2 (S.gen st wr tm xs).heap.next N D (xas (S.gen st wr tm xs).tmps) a ∧ xag X E2 w0 (S.gen st wr tm xs).heap w ∧ (∀ o ∈ (S.gen st wr tm xs).heap.objs, o.ver = S.base ∨ o ∈ st) := by
 unfold Spec.match_ at h
 split at h
 case h_2 => cases h
 rename_i m1 h1
 split at h
 case h_2 => cases h
 rename_i m2 h2
 split at h
 case h_2 => cases h
 rename_i m3 h3
 split at h
 case isFalse => cases h
 rename_i hc
 cases h
 simp only [Bool.and_eq_true] at hc
 obtain ⟨⟨⟨⟨⟨c1, c2⟩, c3⟩, c4⟩, c5⟩, c6⟩ := hc
 obtain ⟨e1, f1⟩ := xl5 S.slots ⟨[], []⟩ m1 h1
 obtain ⟨e2, f2⟩ := xmU (ver := S.base) S.objs m1 m2 h2
 obtain ⟨km3, ⟨r3, hr3⟩, f3⟩ := xjT (ver := S.base) S.rows S.base m2 m3 rfl h3
 have p3 : Pre m3.us m3.us.reverse := ⟨[], by simp⟩
 have p2 : Pre m2.us m3.us.reverse := ⟨r3.reverse, by rw [hr3]; simp⟩
 have p1 : Pre m1.us m3.us.reverse := p2.of_ext e2
 obtain ⟨s1, s2⟩ := f1 _ p1
 obtain ⟨o1, o2⟩ := f2 _ p2
 have r1 := f3 _ p3
 have s1 : (xbq m3.us.reverse S.slots 0).2 = m1.us.length := s1
 have s2 : ∀ t v, xgO t (xbq m3.us.reverse S.slots 0).1 = some v → ∃ v', c.tmps t = some v' ∧ AV.all (xuF S.base m1.km) v ∧ ∀ E1 E2, KEnv S.base E1 E2 m1.km → v.den E2 = v'.den E1 := s2
 have hgen : S.gen st wr tm m3.us.reverse = ⟨fun t => match xgO t (xbq m3.us.reverse S.slots 0).1 with | some v => some v | none => if wr.any (Nat.beq t) then none else tm t,
   ⟨(xbQ S.base m3.us.reverse S.objs m1.us.length).1 ++ xeC S.base m3.us.reverse S.base S.rows m2.us.length ++ st, S.base + S.rows.length + 1⟩⟩ := by
  have hs : xbq m3.us.reverse S.slots 0 = ((xbq m3.us.reverse S.slots 0).1, m1.us.length) := Prod.ext rfl s1
  have ho : xbQ S.base m3.us.reverse S.objs m1.us.length = ((xbQ S.base m3.us.reverse S.objs m1.us.length).1, m2.us.length) := Prod.ext rfl o1
  unfold Spec.gen
  rw [hs]
  simp only []
  rw [ho]
  rfl
 rw [hgen]
 simp only []
 have kmr : ∀ k u, xiT k m2.km = some u → S.base ≤ k ∧ k < S.base + S.rows.length := by
  intro k u hu
  have := List.all_eq_true.1 c2 _ (xmY hu)
  simp only [Bool.and_eq_true] at this
  exact ⟨Nat.le_of_ble_eq_true this.2, by simpa using this.1⟩
 let E2 : Env := fun k => if k < S.base then E1 k else match xiT k m2.km with | some (some k') => E1 k' | _ => .slice none 0 0
 have hold : ∀ k, k < S.base → E2 k = E1 k := fun k hk => if_pos hk
 have hnew : ∀ k, ¬ k < S.base → E2 k = (match xiT k m2.km with | some (some k') => E1 k' | _ => .slice none 0 0) := fun k hk => if_neg hk
 have hkenv : KEnv S.base E1 E2 m2.km := by
  refine ⟨hold, fun k u hu => ?_⟩
  have := kmr k u hu
  rw [hnew k (by omega), hu]
  cases u <;> rfl
 have keyin : ∀ k, xuF S.base m2.km k → k < S.base + S.rows.length + 1 := by
  rintro k (hk | ⟨u, hu⟩)
  ·omega
  ·have := kmr k u hu; omega
 have hslot : ∀ t v, c.tmps t = some v → a.tmps.getD t undef = v.den E1 := fun t v ht => by
  have := hS.ok t
  have e : xas c.tmps t = .is v := by simp [xas, ht]
  rw [e] at this
  exact this.1
 refine ⟨E2, hold, ⟨hS.defers, hS.size, fun t => ?_⟩, ?_, ?_⟩
 ·-- slots
  let F : Nat → Option AV := fun t => match xgO t (xbq m3.us.reverse S.slots 0).1 with | some v => some v | none => if wr.any (Nat.beq t) then none else tm t
  show xrA E2 (S.base + S.rows.length + 1) a t (xas F t)
  cases hl : xgO t (xbq m3.us.reverse S.slots 0).1 with
  | some v =>
   have e : xas F t = .is v := by simp only [xas, F, hl]
   rw [e]
   obtain ⟨v', q1, q2, q3⟩ := s2 t v hl
   refine ⟨?_, xgk (fun k hk => keyin k (xlk e2 hk)) _ q2⟩
   rw [hslot t v' q1, q3 E1 E2 (hkenv.of_ext e2)]
  | none =>
   cases hw : wr.any (Nat.beq t) with
   | true =>
    have e : xas F t = .junk := by simp only [xas, F, hl, hw, if_true]
    rw [e]; trivial
   | false =>
    cases ht : tm t with
    | none =>
     have e : xas F t = .junk := by simp only [xas, F, hl, hw, Bool.false_eq_true, if_false, ht]
     rw [e]; trivial
    | some v =>
     have e : xas F t = .is v := by simp only [xas, F, hl, hw, Bool.false_eq_true, if_false, ht]
     rw [e]
     obtain ⟨q1, q2⟩ := htm t v hw ht
     refine ⟨?_, xg9 (by omega) _ q2⟩
     rw [hslot t v q1]
     exact (xj8 hold v q2).symm
 ·-- the heap
  have okey : ∀ o ∈ (xbQ S.base m3.us.reverse S.objs m1.us.length).1, o.key < S.base ∧ ∀ o' ∈ st, o'.key ≠ o.key := by
   intro o ho
   obtain ⟨_, ⟨s, hs, hsk⟩, _⟩ := o2 o ho
   have := List.all_eq_true.1 c5 s hs
   simp only [Bool.and_eq_true] at this
   rw [← hsk]
   refine ⟨by simpa using this.1, fun o' ho' hk => ?_⟩
   have h2 : xii s.key st = true := xjA.2 ⟨o', ho', hk⟩
   rw [h2] at this
   cases this.2
  have hnd : (((xbQ S.base m3.us.reverse S.objs m1.us.length).1).map (fun o => o.key)).Nodup := by
   rw [xpG]; exact xj2 c4
  have rkey : ∀ o ∈ xeC S.base m3.us.reverse S.base S.rows m2.us.length, S.base ≤ o.key ∧ o.key < S.base + S.rows.length := fun o ho => by
   obtain ⟨_, q1, q2, _⟩ := r1 o ho
   exact ⟨q1, q2⟩
  have rnd : ∀ (l : List RT) (k j : Nat), ((xeC S.base m3.us.reverse k l j).map (fun o => o.key)).Nodup ∧ ∀ o ∈ xeC S.base m3.us.reverse k l j, k ≤ o.key := by
   intro l
   induction l with
   | nil => intro k j; simp [xeC]
   | cons y l ih =>
    intro k j
    obtain ⟨i1, i2⟩ := ih (k + 1) (j + 1)
    refine ⟨?_, fun o ho => ?_⟩
    ·simp only [xeC, List.map_cons, List.nodup_cons]
     refine ⟨fun hm => ?_, i1⟩
     obtain ⟨o, ho, hk⟩ := List.mem_map.1 hm
     have := i2 o ho
     omega
    ·simp only [xeC] at ho
     rcases List.mem_cons.1 ho with rfl | ho
     ·exact Nat.le_refl _
     ·have := i2 o ho; omega
  have mem : ∀ o, o ∈ (xbQ S.base m3.us.reverse S.objs m1.us.length).1 ++ xeC S.base m3.us.reverse S.base S.rows m2.us.length ++ st → o ∈ (xbQ S.base m3.us.reverse S.objs m1.us.length).1 ∨ o ∈ xeC S.base m3.us.reverse S.base S.rows m2.us.length ∨ o ∈ st := by
   intro o ho
   rcases List.mem_append.1 ho with ho | ho
   ·rcases List.mem_append.1 ho with ho | ho
    ·exact .inl ho
    ·exact .inr (.inl ho)
   ·exact .inr (.inr ho)
  refine hH.remap (fun k => ?_) ?_ (fun k => if k < S.base then some k else match xiT k m2.km with | some (some k') => some k' | _ => none) ?_ ?_ ?_ ?_
  ·show (if k < S.base then E1 k else _).oneCell' = true
   split
   ·exact hH.env k
   ·split
    ·exact hH.env _
    ·rfl
  ·intro o ho
   rcases mem o ho with ho | ho | ho
   ·obtain ⟨_, _, _, o', ho', q1, q2, _, q3⟩ := o2 o ho
    have hb := hH.objs o' ho'
    rw [q1] at hb
    exact q3 E1 E2 w hkenv (hold _ (okey o ho).1) hb
   ·obtain ⟨_, q3, q4, _, q6⟩ := r1 o ho
    rcases q6 with ⟨o', ho', t1, t2, _, t3⟩ | ⟨t1, _, t2⟩
    ·exact t3 E1 E2 w (by rw [hnew _ (by omega), t1]) (hH.objs o' ho')
    ·refine t2 E2 w ?_
     rw [hnew _ (by omega)]
     split
     ·rename_i k' hk'; exact absurd hk' (t1 k')
     ·rfl
   ·exact (hH.objs o (hst1 o ho)).keep (hold _ (hst2 o ho).1) (xa3 (fun k hk => hold k hk) (hst2 o ho).2) (fun _ _ => rfl) (Nat.le_refl _) (fun _ _ => rfl)
  ·intro o ho
   rcases mem o ho with ho | ho | ho
   ·obtain ⟨_, _, _, o', ho', q1, q2, qb, q3⟩ := o2 o ho
    have hlt := (okey o ho).1
    exact .inr ⟨o', ho', by rw [q1]; exact if_pos hlt, by rw [q1]; exact hold _ hlt, q2, qb.o⟩
   ·obtain ⟨_, q3, q4, _, q6⟩ := r1 o ho
    have hlt : ¬ o.key < S.base := by omega
    rcases q6 with ⟨o', ho', t1, t2, tb, t3⟩ | ⟨t1, tb, t2⟩
    ·exact .inr ⟨o', ho', by simp only [if_neg hlt, t1], by rw [hnew _ hlt, t1], t2, tb⟩
    ·refine .inl ⟨?_, ?_, tb⟩
     ·simp only [if_neg hlt]
     ·rw [hnew _ hlt]
      split
      ·rename_i k' hk'; exact absurd hk' (t1 k')
      ·rfl
   ·have hlt := (hst2 o ho).1
    exact .inr ⟨o, hst1 o ho, if_pos hlt, hold _ hlt, fun h => h, (xjt.refl _).o⟩
  ·intro o ho o' ho' hown k hk hk'
   have target : ∀ o, o ∈ xeC S.base m3.us.reverse S.base S.rows m2.us.length → ∀ k, (if o.key < S.base then some o.key else match xiT o.key m2.km with | some (some k') => some k' | _ => none) = some k → xiT o.key m2.km = some (some k) := by
    intro o ho k hk
    have := rkey o ho
    rw [if_neg (by omega)] at hk
    split at hk
    ·rename_i k' hk'; cases hk; exact hk'
    ·cases hk
   have low : ∀ o, (o ∈ (xbQ S.base m3.us.reverse S.objs m1.us.length).1 ∨ o ∈ st) → ∀ k, (if o.key < S.base then some o.key else match xiT o.key m2.km with | some (some k') => some k' | _ => none) = some k → o.key = k ∧ (xii k S.objs = true ∨ xii k st = true) := by
    intro o ho k hk
    have hlt : o.key < S.base := by
     rcases ho with ho | ho
     ·exact (okey o ho).1
     ·exact (hst2 o ho).1
    rw [if_pos hlt] at hk
    cases hk
    refine ⟨rfl, ?_⟩
    rcases ho with ho | ho
    ·obtain ⟨_, ⟨s, hs, hsk⟩, _⟩ := o2 o ho
     exact .inl (xjA.2 ⟨s, hs, hsk⟩)
    ·exact .inr (xjA.2 ⟨o, ho, rfl⟩)
   have apart : ∀ o, o ∈ xeC S.base m3.us.reverse S.base S.rows m2.us.length → ∀ k, xiT o.key m2.km = some (some k) → xii k S.objs ≠ true ∧ xtc k st ≠ true := by
    intro o ho k hk
    have := List.all_eq_true.1 c3 k (List.mem_filterMap.2 ⟨_, xmY hk, rfl⟩)
    simp only [Bool.and_eq_true] at this
    exact ⟨fun h => (by rw [h] at this; cases this.1), fun h => (by rw [h] at this; cases this.2)⟩
   have lowO : ∀ o, o ∈ (xbQ S.base m3.us.reverse S.objs m1.us.length).1 → ∀ k, o.key = k → xii k S.objs = true := by
    intro o ho k hk
    obtain ⟨_, ⟨s, hs, hsk⟩, _⟩ := o2 o ho
    exact xjA.2 ⟨s, hs, hsk.trans hk⟩
   rcases mem o ho with h | h | h <;> rcases mem o' ho' with h' | h' | h'
   ·rw [(low o (.inl h) k hk).1, (low o' (.inl h') k hk').1]
   ·exact absurd (lowO o h k (low o (.inl h) k hk).1) (apart o' h' k (target o' h' k hk')).1
   ·rw [(low o (.inl h) k hk).1, (low o' (.inr h') k hk').1]
   ·exact absurd (lowO o' h' k (low o' (.inl h') k hk').1) (apart o h k (target o h k hk)).1
   ·exact xlN (xj2 c1) (xmY (target o h k hk)) (xmY (target o' h' k hk'))
   ·-- an own row out of what still stands
    exfalso
    have ht := target o h k hk
    have hkey := (low o' (.inr h') k hk').1
    obtain ⟨_, _, _, _, q6⟩ := r1 o h
    rcases q6 with ⟨o1, ho1, t1, t2, _⟩ | ⟨t1, _⟩
    ·rw [ht] at t1
     have e : o1.key = k := by injection t1 with t1; injection t1 with t1; exact t1.symm
     have := hH.uniq o' (hst1 o' h') o1 ho1 (by rw [hkey, e])
     exact (apart o h k ht).2 (xqG.2 ⟨o', h', hkey, by rw [this]; exact t2 hown⟩)
    ·exact t1 k ht
   ·rw [(low o (.inr h) k hk).1, (low o' (.inl h') k hk').1]
   ·exact absurd (xqG.2 ⟨o, h, (low o (.inr h) k hk).1, hown⟩) (apart o' h' k (target o' h' k hk')).2
   ·rw [(low o (.inr h) k hk).1, (low o' (.inr h') k hk').1]
  ·intro o ho o' ho' hk
   rcases mem o ho with h | h | h <;> rcases mem o' ho' with h' | h' | h'
   ·exact xjn hnd h h' hk
   ·have := (okey o h).1; have := rkey o' h'; omega
   ·exact absurd hk.symm ((okey o h).2 o' h')
   ·have := (okey o' h').1; have := rkey o h; omega
   ·exact xjn (rnd S.rows S.base m2.us.length).1 h h' hk
   ·have := (hst2 o' h').1; have := rkey o h; omega
   ·exact absurd hk ((okey o' h').2 o h)
   ·have := (hst2 o h).1; have := rkey o' h'; omega
   ·exact hH.uniq o (hst1 o h) o' (hst1 o' h') hk
  ·intro o ho
   rcases mem o ho with ho | ho | ho
   ·obtain ⟨_, _, q, _⟩ := o2 o ho
    have := (okey o ho).1
    exact ⟨by omega, xa3 keyin q⟩
   ·obtain ⟨_, _, q4, q5, _⟩ := r1 o ho
    exact ⟨by omega, xkE q5⟩
   ·have := hst2 o ho
    exact ⟨by omega, xa3 (fun k hk => by omega) this.2⟩
 ·intro o ho
  rcases List.mem_append.1 ho with ho | ho
  ·rcases List.mem_append.1 ho with ho | ho
   ·exact .inl (o2 o ho).1
   ·exact .inl (r1 o ho).1
  ·exact .inr ho
theorem xs3 {S : Spec} {st : List Obj} {ver : Nat} {c : Cfg} {xs : List U} (h : S.match_ P st ver c = some xs) : xsi c.heap.objs ver st = true := by
 unfold Spec.match_ at h
 split at h
 case h_2 => cases h
 split at h
 case h_2 => cases h
 split at h
 case h_2 => cases h
 split at h
 case isFalse => cases h
 rename_i hc
 simp only [Bool.and_eq_true] at hc
 exact hc.2
theorem xmh {objs : List Obj} {ver : Nat} : ∀ {st : List Obj}, xsi objs ver st = true → ∀ o ∈ st, ∃ o' ∈ objs, o'.key = o.key ∧ o'.ver < ver
 | [], _, o, ho => by cases ho
 | s :: r, h, o, ho => by
  unfold xsi at h
  rw [Bool.and_eq_true] at h
  rcases List.mem_cons.1 ho with rfl | ho
  ·have h1 := h.1
   split at h1
   ·rename_i o' hf
    obtain ⟨hm, hk⟩ := xah hf
    exact ⟨o', hm, hk, by simpa using h1⟩
   ·cases h1
  ·exact xmh h.2 o ho
end
end Go.Sy
