/-
 The executor's operations are sound: maps.
-/
import Derived.Test.YtnijhjpaplihbaaGreatSyI
import Derived.WideKeyArr
import Derived.MapKept
set_option linter.unusedVariables false
namespace Go.Sy
open Go.RowKit
section
variable {P : Program} {X : List (Nat × Go.Obj)} {E : Env} {w0 w : World} {objs : List Obj} {n K : Nat}
theorem xxk {kt m : Nat} {q : IntKind} (h : keyQ P kt = some (m, q)) : ∃ e, P.underlying kt = some (.array m e) ∧ P.underlying e = some (.int q) ∧ P.cellsOf e = 1 ∧ P.cellsOf kt = m ∧ P.keyType kt = true ∧ P.types.size ≠ 0 := by
 unfold keyQ at h
 split at h
 ·rename_i m' e hu
  split at h
  ·rename_i q' hq
   split at h
   ·rename_i hc
    cases h
    exact ⟨e, hu, hq, hc.1, hc.2.1, hc.2.2.1, hc.2.2.2⟩
   ·cases h
  ·cases h
 ·cases h
theorem xze {kt m : Nat} {q : IntKind} (h : keyQ P kt = some (m, q)) : WideMaps.KeyLaw P kt := by
 obtain ⟨e, h1, h2, h3, h4, _⟩ := xxk h
 exact WideMaps.ArrKey.law (e := e) (n := m) ⟨h1, by simp [Program.plainKey, h2], h3, h4⟩
theorem xza {α β : Type} {f : α → Option β} : ∀ {l : List α}, (∀ x ∈ l, ∃ y, f x = some y) → ∃ ys, l.mapM f = some ys
 | [], _ => ⟨[], by simp⟩
 | a :: r, h => by
  obtain ⟨y, hy⟩ := h a (by simp)
  obtain ⟨ys, hys⟩ := xza (l := r) (fun x hx => h x (by simp [hx]))
  exact ⟨y :: ys, by simp [List.mapM_cons, hy, hys]⟩
theorem xnt {kt m : Nat} {q : IntKind} (h : keyQ P kt = some (m, q)) {ns : List Int} (hl : ns.length = m) (hw : xqC q ns) : ∃ l, keyOf P kt (.agg (ns.map (Value.int q)).toArray) = some l := by
 obtain ⟨e, h1, h2, h3, h4, h5, h6⟩ := xxk h
 have hsz : ∃ d, P.types.size = d + 1 := by
  cases hs : P.types.size with
  | succ d => exact ⟨d, rfl⟩
  | zero => exact absurd hs h6
 obtain ⟨d, hd⟩ := hsz
 unfold keyOf
 rw [h1]
 have hf : (Value.agg (ns.map (Value.int q)).toArray).formed P kt = true := by simp [Value.formed, h1, h4, hl]
 simp only [h5, hf, Bool.and_self, if_true]
 have hlits : ∃ ls, P.keyLits (P.types.size + 1) kt (Value.agg (ns.map (Value.int q)).toArray).cells.toList = some ls := by
  unfold Program.keyLits
  rw [h1]
  simp only [Value.cells, List.length_map, hl, h4, if_true]
  obtain ⟨ys, hys⟩ := xza (f := fun i => P.keyLits P.types.size e (((ns.map (Value.int q)).drop (i * P.cellsOf e)).take (P.cellsOf e))) (l := List.range m) (fun i hi => by
   have hi : i < ns.length := by rw [hl]; simpa using hi
   rw [hd, h3, Nat.mul_one]
   have : ((ns.map (Value.int q)).drop i).take 1 = [Value.int q ns[i]] := by
    rw [List.drop_eq_getElem_cons (by simpa using hi)]
    simp
   rw [this]
   unfold Program.keyLits
   rw [h2]
   exact ⟨[Lit.int q ns[i]], by simp [hw _ (List.getElem_mem hi)]⟩)
  exact ⟨ys.flatten, by simp [hys]⟩
 obtain ⟨ls, hls⟩ := hlits
 exact ⟨_, by rw [hls]; rfl⟩
theorem xyb {q : IntKind} {m : Nat} {r kc : List Int} : mpK q m r = .agg (kc.map (Value.int q)).toArray ↔ r.take m = kc := by
 unfold mpK
 constructor
 ·intro h
  have h : (r.take m).map (Value.int q) = kc.map (Value.int q) := by
   have := Value.agg.inj h
   simpa using congrArg Array.toList this
  exact (List.map_inj_right (fun a b hab => (Value.int.inj hab).2)).1 h
 ·intro h; rw [h]
theorem xzf {q : IntKind} {m : Nat} {v : AV} {kc : List Int} (h : keyA q m v = some kc) : v.den E = .agg (kc.map (Value.int q)).toArray ∧ kc.length = m := by
 unfold keyA at h
 split at h
 ·rename_i cs
  have h1 := xj9 E [] h
  have h2 := xnd h
  simp only [List.length_nil, List.nil_append] at h1
  have h3 : kc.length = m := by rw [h2.2]; simp
  refine ⟨?_, h3⟩
  simp only [AV.den, h1]
  congr 2
  apply List.ext_getElem?
  intro i
  rw [xtp, List.getElem?_map]
  by_cases hi : i < m
  ·rw [List.getElem?_replicate, if_pos hi, List.getElem?_eq_getElem (by omega : i < kc.length)]
   simp [CK.val, List.getD_eq_getElem?_getD, List.getElem?_eq_getElem (by omega : i < kc.length)]
  ·rw [List.getElem?_replicate, if_neg hi, List.getElem?_eq_none (by omega)]
   rfl
 ·cases h
theorem xs9 {t kt et : TypeId} (h : xzh P t kt et = true) : P.underlying t = some (.map kt et) := by
 unfold xzh at h
 split at h
 ·rename_i k e hu
  rw [Bool.and_eq_true] at h
  rw [hu, Nat.eq_of_beq_eq_true h.1, Nat.eq_of_beq_eq_true h.2]
 ·cases h
theorem xxu {kt m : Nat} {q : IntKind} (hq : keyQ P kt = some (m, q)) {v : Value} {ke : List CK} {l : List (List Int)} {b : Nat} {es : Array MapEntry} {clock : Nat} (hM : xCF w v q m ke l b es clock) {kc : List Int} (hl : kc.length = m) (hw : xqC q kc) :
  ((Instr.findKey kt (.agg (kc.map (Value.int q)).toArray) es.toList).run P w = .ok none w ∧ xc5 m kc l = none ∧ ∀ r ∈ l, r.take m ≠ kc) ∨
  ∃ j r e, (Instr.findKey kt (.agg (kc.map (Value.int q)).toArray) es.toList).run P w = .ok (some (j, mpV ke m r)) w ∧ l[j]? = some r ∧ r.take m = kc ∧ es.toList[j]? = some e ∧ e.key = .agg (kc.map (Value.int q)).toArray ∧ xc5 m kc l = some (r.drop m) := by
 obtain ⟨lx, hx⟩ := xnt hq hl hw
 have hlen : es.toList.length = l.length := by simpa using congrArg List.length hM.ents
 have pt : ∀ (i : Nat) e r, es.toList[i]? = some e → l[i]? = some r → e.key = mpK q m r ∧ e.val = mpV ke m r := by
  intro i e r he hr
  have := congrArg (fun z => z[i]?) hM.ents
  simp only [List.getElem?_map, he, hr, Option.map_some, Option.some.injEq, Prod.mk.injEq] at this
  exact this
 have hkeys : ∀ e ∈ es.toList, ∃ l', keyOf P kt e.key = some l' := by
  intro e he
  obtain ⟨i, hi⟩ := List.mem_iff_getElem?.1 he
  have hil : i < l.length := by rw [← hlen]; exact (List.getElem?_eq_some_iff.1 hi).1
  have hr : l[i]? = some l[i] := List.getElem?_eq_getElem hil
  rw [(pt i e _ hi hr).1]
  have := hM.wf _ (List.getElem_mem hil)
  exact xnt hq this.1 this.2
 rcases (xze hq).find w hx es.toList hkeys with ⟨h1, h2⟩ | ⟨j, e, h1, h2, h3⟩
 ·have hno : ∀ r ∈ l, r.take m ≠ kc := by
   intro r hr hk
   obtain ⟨i, hi⟩ := List.mem_iff_getElem?.1 hr
   have hil : i < es.toList.length := by rw [hlen]; exact (List.getElem?_eq_some_iff.1 hi).1
   have he : es.toList[i]? = some es.toList[i] := List.getElem?_eq_getElem hil
   exact h2 _ (List.getElem_mem hil) (by rw [(pt i _ r he hi).1]; exact xyb.2 hk)
  refine .inl ⟨h1, ?_, hno⟩
  unfold xc5
  rw [List.find?_eq_none.2 (fun r hr => by simpa using hno r hr)]
  rfl
 ·have hjl : j < l.length := by rw [← hlen]; exact (List.getElem?_eq_some_iff.1 h2).1
  have hr : l[j]? = some l[j] := List.getElem?_eq_getElem hjl
  obtain ⟨k1, k2⟩ := pt j e _ h2 hr
  have hk : l[j].take m = kc := xyb.1 (by rw [← k1, h3])
  refine .inr ⟨j, l[j], e, by rw [h1, k2], hr, hk, h2, h3, ?_⟩
  unfold xc5
  cases hf : l.find? (fun r => decide (r.take m = kc)) with
  | none => exact absurd hk (by simpa using List.find?_eq_none.1 hf _ (List.getElem_mem hjl))
  | some r' =>
   have h4 := List.mem_of_find?_eq_some hf
   have h5 : r'.take m = kc := by simpa using List.find?_some hf
   obtain ⟨i, hi⟩ := List.mem_iff_getElem?.1 h4
   have hij : i = j := by
    have hil := (List.getElem?_eq_some_iff.1 hi).1
    have e1 : l[i] = r' := (List.getElem?_eq_some_iff.1 hi).2
    have hpw := List.pairwise_iff_getElem.1 hM.nodup
    rcases Nat.lt_trichotomy i j with hlt | hlt | hlt
    ·exact (hpw i j (by simpa using hil) (by simpa using hjl) hlt (by simp only [List.getElem_map, e1, h5, hk])).elim
    ·exact hlt
    ·exact (hpw j i (by simpa using hjl) (by simpa using hil) hlt (by simp only [List.getElem_map, e1, h5, hk])).elim
   subst hij
   rw [hr] at hi
   cases hi
   rfl
theorem xuh (hH : xag X E w0 ⟨objs, n⟩ w) {t : TypeId} {x : Eff} (h : xvR P K t = some x) :
  xe7 n objs K x ∧ x.nk ≤ 1 ∧ (x.holds → ∃ E' w', (Instr.makeMap t none).run P w = .ok (x.v.den E') w' ∧ xhI E objs w K x E' w') := by
 unfold xvR at h
 split at h
 case h_2 => cases h
 rename_i kt et hu
 split at h
 case h_2 => cases h
 rename_i m q ke hq hke hag
 cases h
 refine ⟨xpJ (b := .mp kt et q m ke []) trivial (Nat.lt_succ_self K), Nat.le_refl _, fun _ => ⟨_, w.alloc (.map #[] 0), ?_, xpK (b := .mp kt et q m ke []) (u := .map (some w.heap.size)) hH.env rfl ?_ (xb1 _ _) ?_ _⟩⟩
 ·simp [Instr.makeMap, Sem.run_bind, run_newObj_alloc, AV.den]
 ·exact ⟨w.heap.size, #[], 0, if_pos rfl, xb8 w _, rfl, (fun r hr => by cases hr), List.nodup_nil⟩
 ·intro g hg; cases hg; exact Nat.le_refl _
theorem xvT (hH : xag X E w0 ⟨objs, n⟩ w) {t : TypeId} {v k : AV} {ok : Bool} {x : Eff} (h : xqA P objs t v k ok = some x) :
  x.rm = [] ∧ x.add = [] ∧ x.nk = 0 ∧ AV.all (fun _ => False) x.v ∧ (x.holds → (Instr.lookup t (v.den E) (k.den E) ok).run P w = .ok (x.v.den E) w) := by
 unfold xqA at h
 split at h
 case h_2 => cases h
 rename_i key
 split at h
 case h_2 => cases h
 rename_i k0 ver own kt et q m ke l hf
 split at h
 case h_2 => cases h
 rename_i kc z hkc hz
 split at h
 case h_2 => cases h
 rename_i zc hzc
 split at h
 case isFalse => cases h
 rename_i hc
 obtain ⟨hm, hk⟩ := xah hf
 simp only [] at hk
 subst hk
 obtain ⟨b, es, clock, hM⟩ := hH.objs _ hm
 have hM : xCF w (E k0) q m ke l b es clock := hM
 obtain ⟨hkd, hkl⟩ := xzf (E := E) hkc
 have hu := xs9 hc.1
 have hzd := xj9 E [] hzc
 simp only [List.length_nil, List.nil_append] at hzd
 have hzr := xo5 (P := P) hz E w
 have run : xqC q kc → (Instr.lookup t ((AV.sl k0).den E) (k.den E) ok).run P w = .ok (if ok then .tuple #[.agg (elV ke 0 ((xc5 m kc l).getD zc)).toArray, .bool (xc5 m kc l).isSome] else .agg (elV ke 0 ((xc5 m kc l).getD zc)).toArray) w := by
  intro hw
  obtain ⟨lx, hx⟩ := xnt hc.2 hkl hw
  have hck := (xze hc.2).check w es.isEmpty hx
  have hv : (AV.sl k0).den E = .map (some b) := hM.is
  rw [hv, hkd]
  unfold Instr.lookup
  rcases xxu hc.2 hM hkl hw with ⟨h1, h2, _⟩ | ⟨j, r, e, h1, _, _, _, _, h2⟩
  ·simp only [Sem.run_bind, run_underlying hu, Result.andThen_ok, Go.MapKept.run_getObj_map hM.at_, Sem.run_pure, hck, h1, hzr, h2, AV.den, hzd]
   cases ok <;> rfl
  ·simp only [Sem.run_bind, run_underlying hu, Result.andThen_ok, Go.MapKept.run_getObj_map hM.at_, Sem.run_pure, hck, h1, h2]
   cases ok <;> rfl
 cases ok with
 | true =>
  cases h
  refine ⟨rfl, rfl, rfl, ⟨xwk _ _ _ _, trivial, trivial⟩, fun hp => ?_⟩
  rw [run hp]
  simp [AV.den, AV.denL, xwj]
 | false =>
  cases h
  refine ⟨rfl, rfl, rfl, xwk _ _ _ _, fun hp => ?_⟩
  rw [run hp]
  simp [AV.den, xwj]
theorem xrM (hH : xag X E w0 ⟨objs, n⟩ w) {t : TypeId} {v k u : AV} {x : Eff} (h : xjy P objs K t v k u = some x) :
  xe7 n objs K x ∧ x.nk ≤ 1 ∧ x.v = .val undef ∧ (x.holds → ∃ w', (Instr.mapUpdate t (v.den E) (k.den E) (u.den E)).run P w = .ok () w' ∧ xhI E objs w K x E w') := by
 unfold xjy at h
 split at h
 case h_2 => cases h
 rename_i key
 split at h
 case h_2 => cases h
 rename_i k0 ver kt et q m ke l hf
 split at h
 case h_2 => cases h
 rename_i kc cs hkc
 split at h
 case h_2 => cases h
 rename_i vc hvc
 split at h
 case isFalse => cases h
 rename_i hc
 cases h
 obtain ⟨hm, hk⟩ := xah hf
 simp only [] at hk
 subst hk
 obtain ⟨b, es, clock, hM⟩ := hH.objs _ hm
 have hM : xCF w (E k0) q m ke l b es clock := hM
 obtain ⟨hkd, hkl⟩ := xzf (E := E) hkc
 have hu := xs9 hc.1
 have hvd := xj9 E [] hvc
 simp only [List.length_nil, List.nil_append] at hvd
 have hblk : blkO (E k0) = some b := by rw [hM.is]; rfl
 have hbl : b < w.heap.size := (Array.getElem?_eq_some_iff.1 hM.at_).1
 refine ⟨⟨?_, ?_, ?_, ?_, trivial, ?_⟩, Nat.zero_le _, rfl, fun hp => ?_⟩
 ·intro k hk; simp at hk; subst hk; exact ⟨_, hm, rfl, rfl⟩
 ·intro o ho; simp at ho; subst ho; exact .inl (by simp)
 ·intro o ho o' ho' _; simp at ho ho'; subst ho; subst ho'; rfl
 ·intro o ho; simp at ho; subst ho; trivial
 ·intro o ho; simp at ho; subst ho; exact Nat.le_refl _
 have hw : xqC q kc := hp
 obtain ⟨lx, hx⟩ := xnt hc.2 hkl hw
 have hck := (xze hc.2).check w false hx
 have hv : (AV.sl k0).den E = .map (some b) := hM.is
 have hrow : mpK q m (kc ++ vc) = .agg (kc.map (Value.int q)).toArray ∧ mpV ke m (kc ++ vc) = .agg (elV ke 0 vc).toArray := by
  constructor
  ·exact xyb.2 (by rw [← hkl]; simp)
  ·unfold mpV; rw [← hkl]; simp
 have fin : ∀ (es' : Array MapEntry) (clock' : Nat), es'.toList.map (fun e => (e.key, e.val)) = (xl4 m kc vc l).map (fun r => (mpK q m r, mpV ke m r)) → (∀ r ∈ xl4 m kc vc l, (r.take m).length = m ∧ xqC q (r.take m)) → ((xl4 m kc vc l).map (fun r => r.take m)).Nodup →
   xhI E objs w K ⟨some (xqC q kc), [k0], 0, [⟨k0, K, true, .mp kt et q m ke (xl4 m kc vc l)⟩], .val undef⟩ E { w with heap := w.heap.setIfInBounds b (.map es' clock') } := by
  intro es' clock' h1 h2 h3
  refine ⟨fun _ _ => rfl, hH.env, ⟨Nat.le_refl _, rfl, rfl, rfl, by simp, fun g hg hne => ?_⟩, ?_, ?_, ?_, ?_, ?_, ?_, ?_⟩
  ·have : g ≠ b := fun e => hne (by simp [hblk, e])
   simp [Array.getElem?_setIfInBounds_ne (fun e => this e.symm)]
  ·intro o ho; simp at ho; subst ho
   exact ⟨b, es', clock', hM.is, by simp [hbl], h1, h2, h3⟩
  ·intro o ho _ g hg; simp at ho; subst ho; exact .inr ⟨k0, by simp, hg⟩
  ·intro o ho hf; simp at ho; subst ho; cases hf
  ·intro o ho o' ho' _ hne; simp at ho ho'; subst ho; subst ho'; exact absurd rfl hne
  ·intro o ho g hg; simp at ho; subst ho; exact xe9 rfl hg
  ·intro o ho g hg; simp at ho; subst ho; exact xe9 rfl hg
  ·intro o ho g hg; simp at ho; subst ho; exact xm1 rfl hg
 rw [hv, hkd]
 simp only [AV.den, hvd]
 rcases xxu hc.2 hM hkl hw with ⟨h1, h2, h3⟩ | ⟨j, r, e, h1, h2, h3, h4, h5, h6⟩
 ·have hput : xl4 m kc vc l = l ++ [kc ++ vc] := by unfold xl4; rw [h2]; rfl
  refine ⟨_, ?_, fin (es.push { key := .agg (kc.map (Value.int q)).toArray, val := .agg (elV ke 0 vc).toArray, born := clock }) (clock + 1) ?_ ?_ ?_⟩
  ·simp only [Instr.mapUpdate, Sem.run_bind, run_underlying hu, Result.andThen_ok, Go.MapKept.run_getObj_map hM.at_, hck, h1, Go.MapKept.run_setObj_map _ hM.at_]
  ·rw [hput]
   simp [hM.ents, hrow.1, hrow.2]
  ·rw [hput]
   intro r hr
   rcases List.mem_append.1 hr with hr | hr
   ·exact hM.wf r hr
   ·rw [List.mem_singleton.1 hr]
    have : (kc ++ vc).take m = kc := by rw [← hkl]; simp
    rw [this]; exact ⟨hkl, hw⟩
  ·rw [hput, List.map_append]
   refine List.nodup_append.2 ⟨hM.nodup, by simp, fun a ha b hb => ?_⟩
   have hb : b = (kc ++ vc).take m := by simpa using hb
   have : (kc ++ vc).take m = kc := by rw [← hkl]; simp
   obtain ⟨r, hr, rfl⟩ := List.mem_map.1 ha
   rw [hb, this]
   exact h3 r hr
 ·have hput : xl4 m kc vc l = l.map (fun r => bif decide (r.take m = kc) then kc ++ vc else r) := by unfold xl4; rw [h6]; rfl
  have htk : ∀ r : List Int, (bif decide (r.take m = kc) then kc ++ vc else r).take m = r.take m := by
   intro r
   by_cases h : r.take m = kc
   ·have : (kc ++ vc).take m = kc := by rw [← hkl]; simp
    simp [h, this]
   ·simp [h]
  have hst := (xze hc.2).stays w hx
  have hesj : es[j]? = some e := by simpa using h4
  refine ⟨_, ?_, fin (es.modify j fun e => { e with key := .agg (kc.map (Value.int q)).toArray, val := .agg (elV ke 0 vc).toArray }) clock ?_ ?_ ?_⟩
  ·simp only [Instr.mapUpdate, Sem.run_bind, run_underlying hu, Result.andThen_ok, Go.MapKept.run_getObj_map hM.at_, hck, h1, hesj, Option.map_some, Option.getD_some, h5, hst, Go.MapKept.run_setObj_map _ hM.at_]
  ·rw [hput, List.map_map]
   apply List.ext_getElem?
   intro i
   have hle : es.toList.length = l.length := by simpa using congrArg List.length hM.ents
   have hpt := congrArg (fun z => z[i]?) hM.ents
   simp only [List.getElem?_map] at hpt ⊢
   by_cases hij : i = j
   ·subst hij
    rw [h2]
    simp [Array.toList_modify, h4, h3, hrow.1, hrow.2]
   ·have hl : (es.modify j fun e => { e with key := .agg (kc.map (Value.int q)).toArray, val := .agg (elV ke 0 vc).toArray }).toList[i]? = es.toList[i]? := by
     have hji : ¬ j = i := fun e => hij e.symm
     rw [Array.toList_modify, List.getElem?_modify]
     simp only [hji, if_false]
     cases es.toList[i]? <;> rfl
    rw [hl, hpt]
    cases hr : l[i]? with
    | none => rfl
    | some r' =>
     have hne : r'.take m ≠ kc := fun hk => by
      have hil := (List.getElem?_eq_some_iff.1 hr).1
      have hjl := (List.getElem?_eq_some_iff.1 h2).1
      have e1 : l[i] = r' := (List.getElem?_eq_some_iff.1 hr).2
      have e2 : l[j] = r := (List.getElem?_eq_some_iff.1 h2).2
      have hpw := List.pairwise_iff_getElem.1 hM.nodup
      rcases Nat.lt_trichotomy i j with hlt | hlt | hlt
      ·exact hpw i j (by simpa using hil) (by simpa using hjl) hlt (by simp only [List.getElem_map, e1, e2, hk, h3])
      ·exact hij hlt
      ·exact hpw j i (by simpa using hjl) (by simpa using hil) hlt (by simp only [List.getElem_map, e1, e2, hk, h3])
     simp [hne]
  ·rw [hput]
   intro r hr
   obtain ⟨r0, hr0, rfl⟩ := List.mem_map.1 hr
   rw [htk]; exact hM.wf r0 hr0
  ·rw [hput, List.map_map]
   have : ((fun r : List Int => r.take m) ∘ fun r => bif decide (r.take m = kc) then kc ++ vc else r) = fun r => r.take m := by funext r; exact htk r
   rw [this]; exact hM.nodup
end
end Go.Sy
