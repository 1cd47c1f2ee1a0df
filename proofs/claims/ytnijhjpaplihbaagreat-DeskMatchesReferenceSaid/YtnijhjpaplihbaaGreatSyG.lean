/-
 The executor's operations are sound: addresses of elements, literals, parts of slices, append.
-/
import Derived.Test.YtnijhjpaplihbaaGreatSyE
set_option linter.unusedVariables false
namespace Go.Sy
open Go.RowKit
section
variable {P : Program} {X : List (Nat × Go.Obj)} {E : Env} {w0 w : World} {objs : List Obj} {n K : Nat} {ρ : Operand → Option AV} {e : Operand → Value}
theorem xr5 {i : AV} {m : Int} (h : intA i = some m) (E : Env) : ∃ k, i.den E = .int k m := by
 unfold intA at h
 split at h
 ·cases h; exact ⟨_, rfl⟩
 ·cases h; exact ⟨_, rfl⟩
 ·cases h
theorem xjJ {t te : TypeId} (hu : P.underlying t = some (.slice te)) {s : Nat} (hs : xkG P te = some (s + 1)) {own : Bool} {e' : TypeId} {v : Value} {m : Nat} {vs : List Value} (hr : xbc w own e' (s + 1) v m vs)
  {k : IntKind} {i : Int} (h0 : 0 ≤ i) (h1 : i < (m : Int)) : (Instr.indexAt t v (.int k i)).run P w = .ok (.pointer ((xoe v).map fun a => a.add (i.toNat * (s + 1) + 0))) w := by
 obtain ⟨a, c, hv, hmc, _⟩ := hr.reads.is
 have hlen : 0 < vs.length := by rw [hr.len]; exact Nat.mul_pos (by omega) (by omega)
 obtain ⟨a0, ha, _⟩ := hr.reads.cell 0 vs[0] (List.getElem?_eq_getElem hlen)
 rw [hv] at ha
 have ha : a = some a0 := ha
 subst ha
 subst hv
 simp only [Instr.indexAt, asIntOf, Sem.run_bind, Sem.run_pure, Result.andThen_ok, run_underlying hu]
 rw [if_pos ⟨h0, h1⟩]
 simp [xcV hs, xoe]
theorem xt3 {t te : TypeId} (hu : P.underlying t = some (.slice te)) {s : Nat} (hs : xkG P te = some (s + 1)) {own : Bool} {e' : TypeId} {ks : List CK} {key : Nat} {l : List (List Int)} (hr : xbc w own e' ks.length (E key) l.length (rowV ks l))
  {sz : Nat} (hks : ks.length = s + 1) (hsz : sz = s + 1) {lo : Option Int} {hi : Int} {k : IntKind} {i : Int} (hp : inV i lo hi l) : (Instr.indexAt t ((AV.vw key sz lo hi).den E) (.int k i)).run P w = .ok ((AV.ix key (s + 1) false (shI lo i) 0).den E) w := by
 obtain ⟨h0, h1, h2⟩ := hp
 obtain ⟨a, c, hv, hmc, _⟩ := hr.reads.is
 subst hsz
 have hn : 0 < l.length := by omega
 have hlen : 0 < (rowV ks l).length := by rw [hr.len, hks]; exact Nat.mul_pos hn (by omega)
 obtain ⟨a0, ha, _⟩ := hr.reads.cell 0 (rowV ks l)[0] (List.getElem?_eq_getElem hlen)
 rw [hv] at ha
 have ha : a = some a0 := ha
 subst ha
 have hne : ¬ c = loN lo := by omega
 simp only [AV.den, xgJ, hv, sliced, if_neg hne, Option.map_some, xoe]
 simp only [Instr.indexAt, asIntOf, Sem.run_bind, Sem.run_pure, Result.andThen_ok, run_underlying hu]
 rw [if_pos ⟨h0, by omega⟩]
 simp only [xcV hs, Result.andThen_ok, Sem.run_pure, Sem.run_bind, xni]
 have hsh : (shI lo i).toNat = loN lo + i.toNat := by
  unfold shI
  cases lo with
  | none => simp [loN]
  | some x => simp only [loN]; omega
 rw [hsh, Nat.add_mul]
 rfl
theorem xrQ (hH : xag X E w0 ⟨objs, n⟩ w) {t : TypeId} {a i : AV} {x : Eff} (ha : AV.all (fun k => k < n) a) (h : xjz P objs t a i = some x) :
  ∃ p u, x = ⟨p, [], 0, [], u⟩ ∧ AV.all (fun k => k < n) u ∧ (x.holds → (Instr.indexAt t (a.den E) (i.den E)).run P w = .ok (u.den E) w) := by
 unfold xjz at h
 split at h
 ·rename_i len te hu
  split at h
  ·rename_i key off k m sz hsz
   split at h
   ·rename_i hb
    cases h
    refine ⟨_, _, rfl, ha, fun _ => ?_⟩
    simp only [Instr.indexAt, AV.den, asIntOf, Instr.sureAddr, Sem.run_bind, Sem.run_pure, Result.andThen_ok, run_underlying hu, if_pos hb, xcV hsz, xiG]
   ·cases h
  ·cases h
 ·rename_i te hu
  split at h
  ·rename_i key m s hi hsz
   obtain ⟨k, hk⟩ := xr5 hi E
   split at h
   ·rename_i k0 ver own e' sz els hf
    obtain ⟨hm, hkk⟩ := xah hf
    have hkk : k0 = key := hkk
    subst hkk
    have hb := hH.objs _ hm
    split at h
    ·rename_i hs1
     subst hs1
     split at h
     ·split at h
      ·rename_i hin
       cases h
       refine ⟨_, _, rfl, ha, fun _ => ?_⟩
       obtain ⟨hr, _, _⟩ := hb
       rw [hk]
       exact xjJ hu hsz hr hin.1 hin.2
      ·cases h
     ·split at h
      ·rename_i e2 ks l hr
       cases h
       refine ⟨_, _, rfl, ha, fun hp => ?_⟩
       have hp : inR m l := hp
       obtain ⟨hr2, _, _⟩ := hb
       have hl : l.length = els.length := by
        simp only [xe6] at hr
        cases hks : xrP P 9 e' with
        | none => rw [hks] at hr; cases hr
        | some ks' =>
         rw [hks] at hr
         simp only [] at hr
         split at hr
         ·cases hc : xxC ks' els with
          | none => rw [hc] at hr; cases hr
          | some l' => rw [hc] at hr; cases hr; exact (xp1 E hc).2
         ·cases hr
       rw [hk]
       exact xjJ hu hsz hr2 hp.1 (by rw [← hl]; exact hp.2)
      ·cases h
    ·cases h
   ·rename_i k0 ver own e' ks l hf
    obtain ⟨hm, hkk⟩ := xah hf
    have hkk : k0 = key := hkk
    subst hkk
    have hb := hH.objs _ hm
    split at h
    ·rename_i hs1
     cases h
     refine ⟨_, _, rfl, ha, fun hp => ?_⟩
     have hp : inR m l := hp
     have hr : xbc w own e' ks.length (E k0) l.length (rowV ks l) := hb
     rw [hs1] at hr
     rw [hk]
     exact xjJ hu hsz hr hp.1 hp.2
    ·cases h
   ·rename_i k0 ver own e' ks l hf
    obtain ⟨hm, hkk⟩ := xah hf
    have hkk : k0 = key := hkk
    subst hkk
    have hb := hH.objs _ hm
    split at h
    ·rename_i hs1
     cases h
     refine ⟨_, _, rfl, ha, fun hp => ?_⟩
     have hp : inR m l := hp
     have hr : xbc w own e' ks.length (E k0) l.length (rowV ks l) := hb.2
     rw [hs1] at hr
     rw [hk]
     exact xjJ hu hsz hr hp.1 hp.2
    ·cases h
   ·rename_i k0 ver own e' ks l hf
    obtain ⟨hm, hkk⟩ := xah hf
    have hkk : k0 = key := hkk
    subst hkk
    have hb := hH.objs _ hm
    split at h
    ·rename_i hs1
     cases h
     refine ⟨_, _, rfl, ha, fun hp => ?_⟩
     have hp : inR m l := hp
     obtain ⟨vs, hb⟩ := hb
     have hr : xbc w own e' ks.length (E k0) l.length vs := hb.row
     rw [hs1] at hr
     rw [hk]
     exact xjJ hu hsz hr hp.1 hp.2
    ·cases h
   ·cases h
  ·rename_i key sz lo hi m s hi' hsz
   obtain ⟨k, hk⟩ := xr5 hi' E
   split at h
   ·rename_i o hf
    obtain ⟨hm, hkk⟩ := xah hf
    subst hkk
    split at h
    ·rename_i e2 ks l hr
     split at h
     ·rename_i hc
      cases h
      refine ⟨_, _, rfl, ha, fun hp => ?_⟩
      have hp : inV m lo hi l := hp
      have hrow := xbT hr (hH.objs _ hm)
      rw [hk]
      exact xt3 hu hsz hrow hc.1 hc.2 hp
     ·cases h
    ·cases h
   ·cases h
  ·cases h
 ·cases h
theorem xpK (hE : ∀ k, (E k).oneCell' = true) {b : Body} {p : Option Prop} {u : Value} {w' : World} (hu : u.oneCell' = true)
  (hb : xbi (fun k => if k = K then u else E k) w' K true b) (hc : Blw w.heap.size w w') (hblk : ∀ g, blkO u = some g → w.heap.size ≤ g) (v : AV) (hf : xv9 b = true := by rfl) : xhI E objs w K ⟨p, [], 1, [⟨K, K, true, b⟩], v⟩ (fun k => if k = K then u else E k) w' := by
 refine ⟨fun k hk => if_neg (by simp at hk; omega), fun k => ?_, Chg.of_below hc _, ?_, ?_, ?_, ?_, ?_, ?_, ?_⟩
 ·by_cases hk : k = K
  ·simp [hk, hu]
  ·simp [hk, hE k]
 ·intro o ho; simp at ho; subst ho; exact hb
 ·intro o ho _ g hg; simp at ho; subst ho; simp at hg; exact .inl (hblk g hg)
 ·intro o ho hf; simp at ho; subst ho; cases hf
 ·intro o ho o' ho' _ hne; simp at ho ho'; subst ho; subst ho'; exact absurd rfl hne
 ·intro o ho g hg; simp at ho; subst ho; exact xe9 hf hg
 ·intro o ho g hg; simp at ho; subst ho; exact xe9 hf hg
 ·intro o ho g hg; simp at ho; subst ho; exact xm1 hf hg
theorem xpJ {b : Body} {p : Option Prop} {v : AV} (hb : xbh (fun k => k < n) b) (hv : AV.all (fun k => k < K + 1) v) : xe7 n objs K ⟨p, [], 1, [⟨K, K, true, b⟩], v⟩ := by
 refine ⟨by simp, ?_, ?_, ?_, xgk (fun k hk => .inr hk) v hv, ?_⟩
 ·intro o ho; simp at ho; subst ho; exact .inr ⟨Nat.le_refl _, Nat.lt_succ_self _⟩
 ·intro o ho o' ho' _; simp at ho ho'; subst ho; subst ho'; rfl
 ·intro o ho; simp at ho; subst ho; exact xa3 (fun k hk => .inl hk) hb
 ·intro o ho; simp at ho; subst ho; exact Nat.le_refl _
theorem xb8 (w : World) (o : Go.Obj) : (w.alloc o).heap[w.heap.size]? = some o := by
 show (w.heap.push o)[w.heap.size]? = some o
 simp
theorem xb1 (w : World) (o : Go.Obj) : Blw w.heap.size w (w.alloc o) := (Blw.refl _ _).alloc (Nat.le_refl _) _
theorem xzl (hE : ∀ k, (E k).oneCell' = true) (hρ : ∀ x v, ρ x = some v → e x = v.den E) {sz : Nat} : ∀ (parts : List (Nat × Operand)) (j : Nat) (els : List (List AV)) (arr : Array Value), xi7 ρ sz j parts = some els → (j + els.length) * sz ≤ arr.size →
  Instr.fill (fun i => some (i * sz, sz)) arr (parts.map fun p => (p.1, e p.2)) = some (arr.toList.take (j * sz) ++ AV.denL E els.flatten ++ arr.toList.drop ((j + els.length) * sz)).toArray
 | [], j, els, arr, h, _ => by
  cases h
  simp [Instr.fill, AV.denL]
 | (i, x) :: r, j, els, arr, h, hsz => by
  unfold xi7 at h
  split at h
  ·rename_i hij
   subst hij
   split at h
   ·rename_i v hv
    split at h
    ·rename_i hc
     obtain ⟨h1, h2, h3⟩ := hc
     split at h
     ·rename_i els' hels
      cases h
      have hvc : (v.den E).cells = (AV.denL E v.cells).toArray := xic h1 hE
      have hvl : (AV.denL E v.cells).length = sz := by rw [xax, List.length_map, h2]
      have hsz' : (i + 1 + els'.length) * sz ≤ arr.size := by simpa [Nat.add_comm, Nat.add_left_comm] using hsz
      have hsz1 : i * sz + sz ≤ arr.size := by
       have : (i + 1) * sz ≤ (i + 1 + els'.length) * sz := Nat.mul_le_mul_right _ (by omega)
       rw [Nat.add_mul, Nat.one_mul] at this
       omega
      simp only [List.map_cons, Instr.fill, hρ x v hv, hvc]
      rw [if_neg (by simp [hvl]; omega)]
      have hf := xtf (i * sz) (AV.denL E v.cells) 0 arr (by omega)
      simp only [Nat.add_zero] at hf
      have e2 : ((AV.denL E v.cells).toArray.zipIdx.foldl (fun (cs : Array Value) x => match x with | (c, j) => cs.setIfInBounds (i * sz + j) c) arr).toList = arr.toList.take (i * sz) ++ AV.denL E v.cells ++ arr.toList.drop (i * sz + (AV.denL E v.cells).length) := by
       rw [← Array.foldl_toList, Array.toList_zipIdx]
       exact hf
      have ih := xzl hE hρ r (i + 1) els' ((AV.denL E v.cells).toArray.zipIdx.foldl (fun (cs : Array Value) x => match x with | (c, j) => cs.setIfInBounds (i * sz + j) c) arr) hels (by
       rw [← Array.length_toList, e2]; simp [hvl]; omega)
      refine ih.trans ?_
      rw [e2, hvl]
      have hA : (arr.toList.take (i * sz)).length = i * sz := by simp; omega
      congr 2
      have hmul : (i + 1) * sz = i * sz + sz := by rw [Nat.add_mul, Nat.one_mul]
      have hmul2 : (i + 1 + els'.length) * sz = i * sz + sz + els'.length * sz := by rw [Nat.add_mul, hmul]
      have hmul3 : (i + (v.cells :: els').length) * sz = i * sz + sz + els'.length * sz := by rw [← hmul2]; simp [Nat.add_comm, Nat.add_left_comm]
      rw [hmul, hmul2, hmul3, List.flatten_cons]
      rw [xax, xax, xax, List.map_append, ← xax, ← xax]
      have t1 : (arr.toList.take (i * sz) ++ AV.denL E v.cells ++ arr.toList.drop (i * sz + sz)).take (i * sz + sz) = arr.toList.take (i * sz) ++ AV.denL E v.cells := by
       rw [List.take_append_of_le_length (by simp [hvl]; omega)]
       exact List.take_of_length_le (by simp [hvl]; omega)
      have t2 : (arr.toList.take (i * sz) ++ AV.denL E v.cells ++ arr.toList.drop (i * sz + sz)).drop (i * sz + sz + els'.length * sz) = arr.toList.drop (i * sz + sz + els'.length * sz) := by
       rw [List.drop_append, List.drop_drop]
       rw [List.drop_of_length_le (by simp [hvl]; omega), List.nil_append]
       congr 1
       simp [hvl]
       omega
      rw [t1, t2]
      simp
     ·cases h
    ·cases h
   ·cases h
  ·cases h
theorem xrf {sz : Nat} {Q : AV → Prop} (hρ : ∀ x v, ρ x = some v → Q v) : ∀ (parts : List (Nat × Operand)) (j : Nat) (els : List (List AV)), xi7 ρ sz j parts = some els → (∀ el ∈ els, el.length = sz) ∧ els.flatten.all AV.scalar = true ∧ (∀ el ∈ els, ∃ v, Q v ∧ el = v.cells)
 | [], j, els, h => by cases h; simp
 | (i, x) :: r, j, els, h => by
  unfold xi7 at h
  split at h
  ·split at h
   ·rename_i v hv
    split at h
    ·rename_i hc
     split at h
     ·rename_i els' hels
      cases h
      obtain ⟨a, b, c⟩ := xrf hρ r (j + 1) els' hels
      refine ⟨fun el hel => ?_, ?_, fun el hel => ?_⟩
      ·rcases List.mem_cons.1 hel with rfl | hel
       ·exact hc.2.1
       ·exact a el hel
      ·rw [List.flatten_cons, List.all_append, hc.2.2, b]; rfl
      ·rcases List.mem_cons.1 hel with rfl | hel
       ·exact ⟨v, hρ x v hv, rfl⟩
       ·exact c el hel
     ·cases h
    ·cases h
   ·cases h
  ·cases h
theorem xqQ (hH : xag X E w0 ⟨objs, n⟩ w) (hρ : ∀ x v, ρ x = some v → e x = v.den E ∧ AV.lt K v) (hKn : K ≤ n) {t : TypeId} {len : Nat} {parts : Array (Nat × Operand)} {x : Eff} (h : xef P ρ K t len parts.toList = some x) :
  xe7 n objs K x ∧ ∃ E' w', (Instr.buildSlice t len (parts.map fun (i, x) => (i, e x))).run P w = .ok (x.v.den E') w' ∧ xhI E objs w K x E' w' := by
 unfold xef at h
 split at h
 ·rename_i te hu
  split at h
  ·rename_i s z hs hz
   split at h
   ·rename_i els hels
    split at h
    ·rename_i hc
     obtain ⟨rfl, hzl, hzp, h24⟩ := hc
     cases h
     obtain ⟨r1, r2, r3⟩ := xrf (Q := AV.lt K) (fun x v hx => (hρ x v hx).2) _ _ _ hels
     have hall : AV.allL (fun k => k < K) els.flatten := by
      rw [xfQ]
      intro a ha
      obtain ⟨el, hel, hae⟩ := List.mem_flatten.1 ha
      obtain ⟨v, hv, rfl⟩ := r3 el hel
      exact (xfQ _ _).1 (xlw hv) a hae
     refine ⟨xpJ (xlU (fun k hk => Nat.lt_of_lt_of_le hk hKn) _ hall) (Nat.lt_succ_self K), ?_⟩
     let u : Value := .slice (some ⟨w.heap.size, 0, none⟩) els.length els.length
     have hdl : (AV.denL E els.flatten).length = els.length * (s + 1) := by
      rw [xax, List.length_map]
      clear hels r2 r3 hall h24
      induction els with
      | nil => simp
      | cons a r ih =>
       rw [List.flatten_cons, List.length_append, ih (fun el hel => r1 el (by simp [hel])), r1 a (by simp), List.length_cons, Nat.add_mul, Nat.one_mul, Nat.add_comm]
     refine ⟨fun k => if k = K then u else E k, w.alloc (.cells (AV.denL E els.flatten).toArray te), ?_, xpK hH.env rfl ?_ (xb1 _ _) ?_ _⟩
     ·have hmap : (parts.map fun (i, x) => (i, e x)).toList = parts.toList.map fun p => (p.1, e p.2) := by simp
      have hzr := xo5 (P := P) hz E w
      have hzc : (z.den E).cells.size = s + 1 := by rw [xic hzp hH.env]; simp [xax, hzl]
      have h24' : ¬ (els.length * (s + 1) > 2 ^ 24) := by omega
      simp only [Instr.buildSlice, Sem.run_bind, run_underlying hu, Result.andThen_ok, xcV hs, Nat.succ_eq_add_one, if_neg h24']
      by_cases h0 : els.length * (s + 1) = 0
      ·have e0 : els = [] := by
        rcases Nat.mul_eq_zero.1 h0 with h1 | h1
        ·exact List.eq_nil_of_length_eq_zero h1
        ·omega
       subst e0
       have hp : parts = #[] := by
        cases hpl : parts.toList with
        | nil => simpa using hpl
        | cons a r =>
         exfalso
         rw [hpl] at hels
         obtain ⟨i, y⟩ := a
         simp only [xi7] at hels
         split at hels
         ·split at hels
          ·split at hels
           ·split at hels <;> cases hels
           ·cases hels
          ·cases hels
         ·cases hels
       subst hp
       have hz0 : (Array.range 0).map (fun _ => (default : Value)) = #[] := Array.eq_empty_of_size_eq_zero (by simp)
       simp [Instr.fill, newRow, AV.den, AV.denL, u, hz0]
      ·rw [if_neg h0]
       have hf := xzl hH.env (fun x v hx => (hρ x v hx).1) (e := e) parts.toList 0 els ((Array.range (els.length * (s + 1))).map ((z.den E).cells[· % (z.den E).cells.size]!)) hels (by simp)
       simp only [Nat.zero_mul, Nat.zero_add, List.take_zero, List.nil_append] at hf
       simp only [Sem.run_bind, hzr, Sem.run_pure, Result.andThen_ok, hmap, hf]
       have hd : (Array.map (fun x => (z.den E).cells[x % (z.den E).cells.size]!) (Array.range (els.length * (s + 1)))).toList.drop (els.length * (s + 1)) = [] := List.drop_of_length_le (by simp)
       rw [hd]
       simp [newRow, AV.den, u]
     ·have hnew := xb8 w (.cells (AV.denL E els.flatten).toArray te)
      have hden : AV.denL (fun k => if k = K then u else E k) els.flatten = AV.denL E els.flatten := xcC (fun k (hk : k < K) => if_neg (by omega)) _ hall
      refine ⟨?_, r1, r2⟩
      rw [hden]
      simp only [if_true]
      have hmax : els.length ≤ maxLen := by
       have : els.length * 1 ≤ els.length * (s + 1) := Nat.mul_le_mul_left _ (by omega)
       simp only [maxLen]; omega
      refine ⟨⟨⟨_, _, rfl, Nat.le_refl _, hmax⟩, fun j v hj => ⟨_, rfl, ?_⟩, fun b hb => ?_⟩, hdl, fun _ => .inr ⟨w.heap.size, els.length, _, rfl, hnew, Nat.le_refl _, hmax, by simp [hdl], by simp [← hdl]⟩⟩
      ·rw [xiG, Nat.zero_add]
       simp only [World.cell?, hnew]
       simpa using hj
      ·have hb : (if els.length = 0 then none else some w.heap.size) = some b := hb
       split at hb
       ·cases hb
       ·cases hb; simp
     ·intro g hg
      have hg : (if els.length = 0 then none else some w.heap.size) = some g := hg
      split at hg
      ·cases hg
      ·cases hg; exact Nat.le_refl _
    ·cases h
   ·cases h
  ·cases h
 ·cases h
end
end Go.Sy
