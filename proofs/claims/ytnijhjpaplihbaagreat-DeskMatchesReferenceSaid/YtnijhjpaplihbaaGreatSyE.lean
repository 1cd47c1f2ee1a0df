/-
 The executor's operations are sound: rows and boxes, operation by operation.
-/
import Derived.Test.YtnijhjpaplihbaaGreatSyC
set_option linter.unusedVariables false
namespace Go.Sy
open Go.RowKit
section
variable {P : Program} {X : List (Nat × Go.Obj)} {E : Env} {w0 w : World} {objs : List Obj} {n K : Nat}
theorem xoJ {α : Type} {sz : Nat} : ∀ (els : List (List α)) (i j : Nat) (el : List α), (∀ x ∈ els, x.length = sz) → els[i]? = some el → j < sz → els.flatten[i * sz + j]? = el[j]?
 | [], i, j, el, _, h, _ => by simp at h
 | a :: r, 0, j, el, hl, h, hj => by
  simp only [List.getElem?_cons_zero, Option.some.injEq] at h
  subst h
  rw [List.flatten_cons, Nat.zero_mul, Nat.zero_add, List.getElem?_append_left (by rw [hl a (by simp)]; exact hj)]
 | a :: r, i + 1, j, el, hl, h, hj => by
  have ih := xoJ r i j el (fun x hx => hl x (by simp [hx])) (by simpa using h) hj
  have ha := hl a (by simp)
  rw [List.flatten_cons, List.getElem?_append_right (by rw [ha, Nat.add_mul, Nat.one_mul]; omega), ha]
  rw [show (i + 1) * sz + j - sz = i * sz + j from by rw [Nat.add_mul, Nat.one_mul]; omega]
  exact ih
theorem xsp {t : TypeId} {own : Bool} {e : TypeId} {sz : Nat} {v : Value} {m : Nat} {vs : List Value} (hr : xbc w own e sz v m vs) {i off : Nat} {cs : List AV} (hsz : cs.length = sz) (h0 : sz ≠ 0)
  (hc : ∀ j, j < sz → vs[i * sz + j]? = (AV.denL E cs)[j]?) {u : AV} (hu : xjk P t cs off = some u) :
  (Instr.loadAt t (.pointer ((xoe v).map fun a => a.add (i * sz + off)))).run P w = .ok (u.den E) w := by
 have hlen : (AV.denL E cs).length = sz := by simp [xax, hsz]
 obtain ⟨u0, h1⟩ : ∃ u0, (AV.denL E cs)[0]? = some u0 := ⟨_, List.getElem?_eq_getElem (by omega)⟩
 obtain ⟨a, ha, _⟩ := hr.reads.cell (i * sz + 0) u0 (by rw [hc 0 (by omega)]; exact h1)
 have hcell : ∀ j u, (AV.denL E cs)[j]? = some u → w.cell? ((a.add (i * sz)).add j) = some u := by
  intro j u hj
  have hjl : j < sz := by rw [← hlen]; exact (List.getElem?_eq_some_iff.1 hj).1
  obtain ⟨a', ha', hc'⟩ := hr.reads.cell (i * sz + j) u (by rw [hc j hjl]; exact hj)
  rw [ha] at ha'
  cases ha'
  rw [xni]
  exact hc'
 have := xo6 (P := P) (t := t) (off := off) hcell hu
 rw [xni] at this
 simp [Instr.loadAt, ha, Instr.sureAddr, this]
theorem xyh (hH : xag X E w0 ⟨objs, n⟩ w) {t : TypeId} {v : AV} {x : Eff} (h : xzX P objs t v = some x) :
  ∃ p u, x = ⟨p, [], 0, [], u⟩ ∧ AV.all (fun k => k < n) u ∧ (x.holds → (Instr.loadAt t (v.den E)).run P w = .ok (u.den E) w) := by
 have rowload : ∀ {key : Nat} {own : Bool} {b : Body} {e : TypeId} {ks : List CK} {l : List (List Int)} {sz : Nat} {kn : Bool} {i : Int} {off : Nat}, xbi E w key own b → xe6 P b = some (e, ks, l) →
   (if ks.length = sz ∧ sz ≠ 0 then (match xjk P t (elA ks 0 (l.getD i.toNat [])) off with | some v => chkE (inR i l) v | none => none) else none) = some x →
   ∃ p u, x = ⟨p, [], 0, [], u⟩ ∧ AV.all (fun k => k < n) u ∧ (x.holds → (Instr.loadAt t ((AV.ix key sz kn i off).den E)).run P w = .ok (u.den E) w) := by
  intro key own b e ks l sz kn i off hb hr h
  split at h
  ·rename_i hsz
   obtain ⟨rfl, h0⟩ := hsz
   split at h
   ·rename_i u hu
    cases h
    refine ⟨_, u, rfl, xi5 hu (xwk _ _ _ _), fun hp => ?_⟩
    have hp : inR i l := hp
    have hrow := xbT hr hb
    have := xsp (P := P) (E := E) (t := t) hrow (i := i.toNat) (off := off) (cs := elA ks 0 (l.getD i.toNat [])) (xu3 _ _ _) h0 (fun j hj => by
     rw [xwj]
     exact xnq ks l i.toNat j hj (by have := hp.1; have := hp.2; omega)) hu
    simpa [AV.den] using this
   ·cases h
  ·cases h
 unfold xzX at h
 split at h
 ·rename_i key off
  split at h
  ·rename_i k0 ver own cs hf
   split at h
   ·rename_i u hu
    cases h
    obtain ⟨hm, hk⟩ := xah hf
    obtain ⟨b, T, h1, h2⟩ := hH.objs _ hm
    have hk : k0 = key := hk
    subst hk
    have h1 : E k0 = .pointer (some ⟨b, 0, none⟩) := h1
    refine ⟨_, u, rfl, xi5 hu (hH.lt _ hm).2, fun _ => ?_⟩
    have := xq0 (P := P) h2 hu
    simp [AV.den, h1, blk, Instr.loadAt, Instr.sureAddr, this]
   ·cases h
  ·cases h
 ·rename_i key sz kn i off
  split at h
  ·rename_i k0 ver own e sz' els hf
   obtain ⟨hm, hk⟩ := xah hf
   have hk : k0 = key := hk
   subst hk
   have hb := hH.objs _ hm
   split at h
   ·split at h
    ·rename_i el hel
     split at h
     ·rename_i hc
      obtain ⟨rfl, h0⟩ := hc
      split at h
      ·rename_i u hu
       cases h
       obtain ⟨hr, hls, _⟩ := hb
       have hls : ∀ el ∈ els, el.length = sz' := hls
       have hmem : el ∈ els := List.mem_of_getElem? hel
       refine ⟨_, u, rfl, xi5 hu ?_, fun _ => ?_⟩
       ·have := (hH.lt _ hm).2
        have this : AV.allL (fun k => k < n) els.flatten := this
        rw [xfQ] at this ⊢
        exact fun a ha => this a (List.mem_flatten.2 ⟨el, hmem, ha⟩)
       ·have := xsp (P := P) (E := E) (t := t) hr (i := i.toNat) (off := off) (cs := el) (hls el hmem) h0 (fun j hj => by
         rw [xax, xax, List.getElem?_map, List.getElem?_map, xoJ els i.toNat j el hls hel hj]) hu
        simpa [AV.den] using this
      ·cases h
     ·cases h
    ·cases h
   ·split at h
    ·rename_i e' ks l hr
     exact rowload hb hr h
    ·cases h
  ·rename_i k0 ver own e ks l hf
   obtain ⟨hm, hk⟩ := xah hf
   have hk : k0 = key := hk
   subst hk
   exact rowload (hH.objs _ hm) (b := .row e ks l) rfl h
  ·rename_i k0 ver own e ks l hf
   obtain ⟨hm, hk⟩ := xah hf
   have hk : k0 = key := hk
   subst hk
   exact rowload (hH.objs _ hm) (b := .sub e ks l) rfl h
  ·cases h
 ·cases h
theorem xsf {α : Type} (c vs : List α) (A N : Nat) (h1 : A + vs.length ≤ N) (h2 : N ≤ c.length) : (c.take A ++ vs ++ c.drop (A + vs.length)).take N = (c.take N).take A ++ vs ++ (c.take N).drop (A + vs.length) := by
 have hA : (c.take A).length = A := by simp; omega
 rw [List.append_assoc, List.take_append, List.take_append, hA, List.take_take, Nat.min_eq_right (by omega), List.take_take, Nat.min_eq_left (by omega), List.take_of_length_le (by omega : vs.length ≤ N - A), List.append_assoc, List.drop_take]
 congr 3
 omega
theorem xlp (hE : ∀ k, (E k).oneCell' = true) {key : Nat} {b : Body} {p : Option Prop} {v : AV} {w' : World}
  (hb : xbi E w' key true b) (hc : ∃ g, blkO (E key) = some g ∧ Chg w w' [g] ∨ Chg w w' []) (hf : xv9 b = true := by rfl) : xhI E objs w K ⟨p, [key], 0, [⟨key, K, true, b⟩], v⟩ E w' := by
 refine ⟨fun _ _ => rfl, hE, ?_, ?_, ?_, ?_, ?_, ?_, ?_, ?_⟩
 ·obtain ⟨g, ⟨h1, h2⟩ | h2⟩ := hc
  ·simpa [h1] using h2
  ·exact ⟨h2.drawn, h2.os, h2.tape, h2.output, h2.size, fun k hk _ => h2.block k hk (by simp)⟩
 ·intro o ho; simp at ho; subst ho; exact hb
 ·intro o ho _ g hg; simp at ho; subst ho; exact .inr ⟨key, by simp, hg⟩
 ·intro o ho hf; simp at ho; subst ho; cases hf
 ·intro o ho o' ho' _ hne; simp at ho ho'; subst ho; subst ho'; exact absurd rfl hne
 ·intro o ho g hg; simp at ho; subst ho; exact xe9 hf hg
 ·intro o ho g hg; simp at ho; subst ho; exact xe9 hf hg
 ·intro o ho g hg; simp at ho; subst ho; exact xm1 hf hg
theorem xm6 {key : Nat} {b : Body} {p : Option Prop} {v : AV} (ho : ∃ o ∈ objs, o.key = key ∧ o.own = true) (hb : xbh (fun k => k < n) b) (hv : AV.all (fun k => k < n) v) : xe7 n objs K ⟨p, [key], 0, [⟨key, K, true, b⟩], v⟩ := by
 refine ⟨?_, ?_, ?_, ?_, xgk (fun k hk => .inl hk) v hv, ?_⟩
 ·intro k hk; simp at hk; subst hk; exact ho
 ·intro o ho; simp at ho; subst ho; simp
 ·intro o ho o' ho' _; simp at ho ho'; subst ho; subst ho'; rfl
 ·intro o ho; simp at ho; subst ho; exact xa3 (fun k hk => .inl hk) hb
 ·intro o ho; simp at ho; subst ho; exact Nat.le_refl _
theorem xjE (w : World) (g : Nat) (cs : Array Value) : Chg w (w.setRow g cs) [g] :=
 ⟨Nat.le_of_eq (by simp), rfl, rfl, rfl, by simp [World.setRow], fun k _ hk => by
  simp only [World.setRow, Array.getElem?_modify]
  rw [if_neg (by simp at hk; omega)]⟩
theorem xvN {ks : List CK} {v : AV} {ns : List Int} (h : xp2 ks v.cells = some ns) : v.plainCells = true := by
 cases v with
 | val x =>
  cases x with
  | agg cs =>
   exfalso
   cases ks with
   | nil => cases h
   | cons k ks =>
    simp only [AV.cells, xp2] at h
    cases k <;> simp [xBL] at h
  | _ => rfl
 | _ => rfl
theorem xwC (hH : xag X E w0 ⟨objs, n⟩ w) {t : TypeId} {a v : AV} {x : Eff} (hv : AV.all (fun k => k < n) v) (h : xsh P objs K t v a = some x) :
  xe7 n objs K x ∧ x.v = .val undef ∧ (x.holds → ∃ w', (Instr.storeAt t (a.den E) (v.den E)).run P w = .ok () w' ∧ xhI E objs w K x E w') := by
 unfold xsh at h
 split at h
 ·rename_i key off
  split at h
  ·rename_i k0 ver cs m hf hs
   split at h
   ·rename_i hc
    obtain ⟨h1, h2, h3⟩ := hc
    cases h
    obtain ⟨hm, hk⟩ := xah hf
    have hk : k0 = key := hk
    subst hk
    obtain ⟨g, T, hg, hT⟩ := hH.objs _ hm
    have hg : E k0 = .pointer (some ⟨g, 0, none⟩) := hg
    have hpl := xrL h3
    refine ⟨xm6 ⟨_, hm, rfl, rfl⟩ (xrx (hH.lt _ hm).2 (xlw hv)) trivial, rfl, fun _ => ?_⟩
    have hst := run_storeCells_at P g off T (AV.denL E v.cells) 0 (AV.denL E cs).toArray w hT (by simp [xax]; omega) (by
     intro u hu
     rw [xax] at hu
     obtain ⟨c, hc, rfl⟩ := List.mem_map.1 hu
     exact xuI (List.all_eq_true.1 h3 c hc) hH.env)
    refine ⟨_, ?_, xlp hH.env (w' := w.setRow g (AV.denL E (xoy cs off v.cells)).toArray) ?_ ⟨g, .inl ⟨by rw [hg]; rfl, xjE _ _ _⟩⟩⟩
    ·have hsz : (AV.denL E v.cells).toArray.size = m := by simp [xax, h1]
     simp only [AV.den, hg, blk, Instr.storeAt, Instr.sureAddr, storeVar, Sem.run_bind, Sem.run_pure, Result.andThen_ok, xcV hs, xic hpl hH.env]
     rw [if_neg (by simp [hsz])]
     simp only [hst]
     simp [xoy, xax]
    ·exact ⟨g, T, hg, setRow_heap w g _ _ T _ hT⟩
   ·cases h
  ·cases h
 ·rename_i key sz kn i off
  split at h
  ·rename_i k0 ver b m hf hs
   split at h
   ·rename_i e ks l hr
    split at h
    ·rename_i ns hns
     split at h
     ·rename_i hc
      obtain ⟨rfl, h0, h1, h2⟩ := hc
      cases h
      obtain ⟨hm, hk⟩ := xah hf
      have hk : k0 = key := hk
      subst hk
      have hrow := xbT hr (hH.objs _ hm)
      have hrow : xbc w true e ks.length (E k0) l.length (rowV ks l) := hrow
      refine ⟨xm6 ⟨_, hm, rfl, rfl⟩ xb0 trivial, rfl, fun hp => ?_⟩
      have hp : inR i l := hp
      have hi : i.toNat < l.length := by have := hp.1; have := hp.2; omega
      obtain ⟨hnl1, hnl2⟩ := xnd hns
      have hnl : ns.length = m := by rw [← h2, hnl1, hnl2]
      have hden : AV.denL E v.cells = elV ((ks.drop off).take ns.length) 0 ns := by
       have := xj9 E [] hns
       rw [hnl]
       simpa using this
      have hvl : (AV.denL E v.cells).length = m := by rw [xax, List.length_map, h2]
      have hposl : 0 < l.length * ks.length := Nat.mul_pos (by omega) (by omega)
      have hstep : i.toNat * ks.length + off + m ≤ l.length * ks.length := by
       have := Nat.mul_le_mul_right ks.length (show i.toNat + 1 ≤ l.length from hi)
       rw [Nat.add_mul, Nat.one_mul] at this
       omega
      rcases hrow.own rfl with ⟨a, ha, hn⟩ | ⟨g, cap, cur, hE, hg, hcap, hmax, hcs, htk⟩
      ·omega
      ·have hcur : (cur.toList.take (l.length * ks.length)) = rowV ks l := htk
       have hcl : l.length * ks.length ≤ cur.size := by rw [hcs]; exact Nat.mul_le_mul_right _ hcap
       have hst := run_storeCells_at P g (i.toNat * ks.length + off) e (AV.denL E v.cells) 0 cur w hg (by rw [hvl]; omega) (by
        intro u hu; rw [hden] at hu; exact xyw _ _ _ u hu)
       simp only [Nat.add_zero] at hst
       have hset := xCa (ks := ks) (l := l) (i := i.toNat) (off := off) (ns := ns) hi (by omega) hden
       have hcap0 : cap ≠ 0 := fun e0 => by subst e0; simp at hcap; rw [hcap] at hi; simp at hi
       have hdl : (rowV ks l).length = l.length * ks.length := xbn ks l
       have htake : (cur.toList.take (i.toNat * ks.length + off) ++ AV.denL E v.cells ++ cur.toList.drop (i.toNat * ks.length + off + (AV.denL E v.cells).length)).take (l.length * ks.length) = rowV ks (l.set i.toNat (xqm ks.length (l.getD i.toNat []) off ns)) := by
        rw [hset, ← hcur]
        exact xsf cur.toList (AV.denL E v.cells) _ _ (by omega) (by simpa using hcl)
       refine ⟨_, ?_, xlp hH.env (w' := w.setRow g (cur.toList.take (i.toNat * ks.length + off) ++ AV.denL E v.cells ++ cur.toList.drop (i.toNat * ks.length + off + (AV.denL E v.cells).length)).toArray) ?_ ⟨g, .inl ⟨by rw [hE]; simp [blkO, hcap0], xjE _ _ _⟩⟩⟩
       ·have hsz : (AV.denL E v.cells).toArray.size = m := by simp [hvl]
        simp only [AV.den, hE, xoe, Option.map_some, Instr.storeAt, Instr.sureAddr, storeVar, Sem.run_bind, Sem.run_pure, Result.andThen_ok, xcV hs, xic (xvN hns) hH.env]
        rw [if_neg (by simp [hsz])]
        simp only [xiG, Nat.zero_add]
        exact hst
       ·have hnew := setRow_heap w g cur (cur.toList.take (i.toNat * ks.length + off) ++ AV.denL E v.cells ++ cur.toList.drop (i.toNat * ks.length + off + (AV.denL E v.cells).length)).toArray e _ hg
        show xbc _ true e ks.length (E k0) _ _
        rw [List.length_set]
        refine ⟨⟨⟨_, _, hE, hcap, hmax⟩, ?_, ?_⟩, by rw [xbn, List.length_set], fun _ => .inr ⟨g, cap, _, hE, hnew, hcap, hmax, ?_, by simpa using htake⟩⟩
        ·intro j u hj
         refine ⟨⟨g, 0, none⟩, by rw [hE]; rfl, ?_⟩
         rw [xiG, Nat.zero_add]
         rw [← htake, List.getElem?_take] at hj
         split at hj
         ·simp only [World.cell?, hnew]
          simpa using hj
         ·cases hj
        ·intro b hb
         rw [hE] at hb
         simp [blkO, hcap0] at hb
         subst hb
         exact (Array.getElem?_eq_some_iff.1 hnew).1
        ·simp only [List.size_toArray, List.length_append, List.length_take, List.length_drop, Array.length_toList, hvl]
         omega
     ·cases h
    ·cases h
   ·cases h
  ·cases h
 ·cases h
end
end Go.Sy
