/-
 The executor's operations are sound: parts of rows written in place; clear; a part as a row of its own.
-/
import Derived.Test.YtnijhjpaplihbaaGreatSyS
set_option linter.unusedVariables false
namespace Go.Sy
open Go.RowKit
section
variable {P : Program} {X : List (Nat × Go.Obj)} {E : Env} {w0 w : World} {objs : List Obj} {n K : Nat}
theorem xos {t : TypeId} {z : AV} (hz : xqa P t = some z) : z.plainCells = true := by
 unfold xqa at hz
 split at hz
 ·rename_i i _
  cases h2 : i.zero with
  | none => simp [h2] at hz
  | some v => simp [h2] at hz; subst hz; exact xvO v
 ·cases hz
theorem xtU (a : Addr) : a.add 0 = a := by unfold Addr.add; simp
theorem xsr (ks : List CK) (l : List (List Int)) (k : Nat) : rowV ks (l.take k) = (rowV ks l).take (k * ks.length) := by
 have := xvF ks l 0 k
 simpa using this
theorem xAM (ks : List CK) (l : List (List Int)) (k : Nat) : rowV ks (l.drop k) = (rowV ks l).drop (k * ks.length) := by
 have := xvF ks l k l.length
 rw [List.take_length, List.take_of_length_le (by rw [xbn]; exact Nat.le_refl _)] at this
 exact this
def xjc (l : List (List Int)) (lo : Nat) (m : List (List Int)) : List (List Int) := l.take lo ++ m ++ l.drop (lo + m.length)
theorem xvm {l : List (List Int)} {lo : Nat} {m : List (List Int)} (h : lo + m.length ≤ l.length) : (xjc l lo m).length = l.length := by
 simp [xjc]; omega
theorem xx1 (ks : List CK) (l : List (List Int)) (lo : Nat) (m : List (List Int)) : rowV ks (xjc l lo m) = (rowV ks l).take (lo * ks.length) ++ rowV ks m ++ (rowV ks l).drop (lo * ks.length + (rowV ks m).length) := by
 rw [xjc, xoz, xoz, xsr, xAM, xbn ks m, Nat.add_mul]
theorem xuO {g cap : Nat} {cur : Array Value} {e : TypeId} {ks : List CK} {l : List (List Int)} {v : Value} (hv : v = .slice (some ⟨g, 0, none⟩) l.length cap) (hg : w.heap[g]? = some (.cells cur e (0, 0))) (hcap : l.length ≤ cap) (hmax : cap ≤ maxLen)
  (hcs : cur.size = cap * ks.length) (htk : cur.toList.take (l.length * ks.length) = rowV ks l) {lo : Nat} {m : List (List Int)} (h : lo + m.length ≤ l.length) :
  xbc (w.setRow g (cur.toList.take (lo * ks.length) ++ rowV ks m ++ cur.toList.drop (lo * ks.length + (rowV ks m).length)).toArray) true e ks.length v (xjc l lo m).length (rowV ks (xjc l lo m)) := by
 have hml : (rowV ks m).length = m.length * ks.length := xbn ks m
 have hcl : l.length * ks.length ≤ cur.size := by rw [hcs]; exact Nat.mul_le_mul_right _ hcap
 have hfit : lo * ks.length + (rowV ks m).length ≤ l.length * ks.length := by rw [hml, ← Nat.add_mul]; exact Nat.mul_le_mul_right _ h
 have hnew := setRow_heap w g cur (cur.toList.take (lo * ks.length) ++ rowV ks m ++ cur.toList.drop (lo * ks.length + (rowV ks m).length)).toArray e _ hg
 have htake : (cur.toList.take (lo * ks.length) ++ rowV ks m ++ cur.toList.drop (lo * ks.length + (rowV ks m).length)).take (l.length * ks.length) = rowV ks (xjc l lo m) := by
  rw [xx1, ← htk]
  exact xsf cur.toList (rowV ks m) _ _ hfit (by simpa using hcl)
 refine xfw ?_ (by rw [xbn])
 rw [xvm h]
 exact .inr ⟨g, cap, _, hv, hnew, hcap, hmax, by simp only [List.size_toArray, List.length_append, List.length_take, List.length_drop, Array.length_toList]; omega, by simpa using htake⟩
theorem xtX (ks : List CK) (zc : List Int) (m : Nat) (h0 : zc.length = ks.length) : (Builtin.zeroCells (elV ks 0 zc).toArray m).toList = rowV ks (List.replicate m zc) := by
 apply List.ext_getElem?
 intro i
 simp only [Builtin.zeroCells, Array.toList_map, Array.toList_range, List.getElem?_map]
 have hsz : (elV ks 0 zc).toArray.size = ks.length := by simp [xep]
 rw [hsz]
 by_cases hi : i < m * ks.length
 ·have hpos : 0 < ks.length := by
   rcases Nat.eq_zero_or_pos ks.length with h | h
   ·rw [h] at hi; simp at hi
   ·exact h
  have hq : i / ks.length < m := Nat.div_lt_of_lt_mul (by rw [Nat.mul_comm]; exact hi)
  have hr : i % ks.length < ks.length := Nat.mod_lt _ hpos
  have := xnq ks (List.replicate m zc) (i / ks.length) (i % ks.length) hr (by simpa using hq)
  rw [Nat.div_add_mod'] at this
  rw [this, List.getElem?_range hi]
  have hgd : (List.replicate m zc).getD (i / ks.length) [] = zc := by simp [List.getD_eq_getElem?_getD, hq]
  rw [hgd]
  have hlt : i % ks.length < (elV ks 0 zc).length := by rw [xep]; exact hr
  simp only [Option.map_some]
  rw [List.getElem?_eq_getElem hlt]
  congr 1
  rw [getElem!_pos _ _ (by simpa using hlt)]
  simp
 ·rw [List.getElem?_eq_none (by simpa using hi), List.getElem?_eq_none (by rw [xbn]; simpa using hi)]
  rfl
theorem xvC {t ty te : TypeId} (ht : P.underlying t = some (.slice te)) {z : AV} (hz : xqa P te = some z) (hpl : z.plainCells = true) (hE : ∀ k, (E k).oneCell' = true) {ks : List CK} {zc : List Int} (hc : xp2 ks z.cells = some zc) {key : Nat} {l : List (List Int)}
  (hr : xbc w true te ks.length (E key) l.length (rowV ks l)) {lo hi : Nat} (h1 : lo ≤ hi) (h2 : hi ≤ l.length) :
  ∃ w', (Builtin.clear_ #[t] ty #[xgJ (E key) ks.length lo hi]).run P w = .ok (.tuple #[]) w' ∧ xbc w' true te ks.length (E key) (xjc l lo (List.replicate (hi - lo) zc)).length (rowV ks (xjc l lo (List.replicate (hi - lo) zc))) ∧ Chg w w' (blkO (E key)).toList := by
 obtain ⟨a, c, hv, hmc, _⟩ := hr.reads.is
 by_cases he : hi = lo
 ·subst he
  have hs : xjc l hi (List.replicate (hi - hi) zc) = l := by simp [xjc]
  rw [hs]
  refine ⟨w, ?_, hr, Chg.refl _ _⟩
  simp only [xgJ, hv, sliced, Nat.sub_self]
  split
  ·cases a <;> simp [Builtin.clear_, run_underlying ht]
  ·cases a <;> simp [Builtin.clear_, run_underlying ht]
 ·rcases hr.own rfl with ⟨a', ha, hn⟩ | ⟨g, cap, cur, hE', hg, hcap, hmax, hcs, htk⟩
  ·omega
  ·have hne : ¬ cap = lo := by omega
   have hcap0 : cap ≠ 0 := by omega
   have hzl := (xnd hc).1
   have hzn := (xnd hc).2
   have hden : (z.den E).cells = (elV ks 0 zc).toArray := by
    rw [xic hpl hE]
    have := xj9 E [] hc
    rw [this]; rfl
   have hspl := xuO (w := w) hE' hg hcap hmax hcs htk (lo := lo) (m := List.replicate (hi - lo) zc) (by simp; omega)
   have hfit : lo * ks.length + (rowV ks (List.replicate (hi - lo) zc)).length ≤ cur.size := by
    rw [xbn, List.length_replicate, ← Nat.add_mul, hcs]
    exact Nat.mul_le_mul_right _ (by omega)
   have hst := run_storeCells_at P g (lo * ks.length) te (rowV ks (List.replicate (hi - lo) zc)) 0 cur w hg (by simpa using hfit) (xo7 _ _)
   simp only [Nat.add_zero] at hst
   refine ⟨_, ?_, hspl, ?_⟩
   ·obtain ⟨m, hm⟩ : ∃ m, hi - lo = m + 1 := ⟨hi - lo - 1, by omega⟩
    simp only [xgJ, hE', sliced, if_neg hne, Option.map_some, xiG, Nat.zero_add, hm]
    rw [hm] at hst
    simp only [Builtin.clear_, run_underlying ht, Sem.run_bind, Sem.run_pure, Result.andThen_ok, List.getElem?_toArray, List.getElem?_cons_zero, xo5 hz E, hden, xtX ks zc (m + 1) hzn, hst]
   ·rw [hE']
    have : (blkO (.slice (some ⟨g, 0, none⟩) l.length cap)).toList = [g] := by simp [blkO, hcap0]
    rw [this]
    exact xjE _ _ _
theorem xne (hH : xag X E w0 ⟨objs, n⟩ w) {t ty te : TypeId} (ht : P.underlying t = some (.slice te)) {key : Nat} {sz : Option Nat} {lo hi : Option Int} {x : Eff} (h : xnf P objs K te key sz lo hi = some x) :
  xe7 n objs K x ∧ x.nk = 0 ∧ x.v = .tup [] ∧ ∃ l : List (List Int), (∃ a c, E key = .slice a l.length c) ∧ ∃ k : Nat, (sz = none ∨ sz = some k) ∧ (x.holds → (loN lo : Int) ≤ hi.getD l.length ∧ hi.getD l.length ≤ (l.length : Int) ∧ ∃ w', (Builtin.clear_ #[t] ty #[xgJ (E key) k (loN lo) (hi.getD l.length).toNat]).run P w = .ok (.tuple #[]) w' ∧ xhI E objs w K x E w') := by
 unfold xnf at h
 split at h
 case h_2 => cases h
 rename_i k0 ver b hf
 split at h
 case h_2 => cases h
 rename_i e ks l z hr hz
 split at h
 case h_2 => cases h
 rename_i zc hc
 split at h
 case isFalse => cases h
 rename_i hcond
 cases h
 obtain ⟨rfl, hsz⟩ := hcond
 obtain ⟨hm, hk⟩ := xah hf
 have hk : k0 = key := hk
 subst hk
 have hrow : xbc w true e ks.length (E k0) l.length (rowV ks l) := xbT hr (hH.objs _ hm)
 obtain ⟨a, c, hv, _, _⟩ := hrow.reads.is
 refine ⟨xm6 ⟨_, hm, rfl, rfl⟩ xb0 trivial, rfl, rfl, l, ⟨a, c, hv⟩, ks.length, hsz, fun hp => ?_⟩
 obtain ⟨h1, h2⟩ : xAa l lo (hi.getD l.length) := hp
 obtain ⟨w', r1, r2, r3⟩ := xvC (ty := ty) ht hz (xos hz) hH.env hc hrow (lo := loN lo) (hi := (hi.getD l.length).toNat) (by omega) (by omega)
 refine ⟨h1, h2, w', r1, xlp hH.env ?_ ?_⟩
 ·have : xjc l (loN lo) (List.replicate ((hi.getD l.length).toNat - loN lo) zc) = l.take (loN lo) ++ List.replicate ((hi.getD l.length).toNat - loN lo) zc ++ l.drop (hi.getD l.length).toNat := by
   simp only [xjc, List.length_replicate]
   congr 2
   omega
  rw [this] at r2
  exact r2
 ·rw [hv] at r3 ⊢
  cases hb : blkO (.slice a l.length c) with
  | none => rw [hb] at r3; exact ⟨0, .inr r3⟩
  | some g => rw [hb] at r3; exact ⟨g, .inl ⟨rfl, by simpa using r3⟩⟩
theorem xxD (hH : xag X E w0 ⟨objs, n⟩ w) {t ty : TypeId} {v : AV} {x : Eff} (h : xu7 P objs K t v = some x) :
  xe7 n objs K x ∧ x.nk = 0 ∧ x.v = .tup [] ∧ (x.holds → ∃ w', (Builtin.clear_ #[t] ty #[v.den E]).run P w = .ok (.tuple #[]) w' ∧ xhI E objs w K x E w') := by
 unfold xu7 at h
 split at h
 case h_2 => cases h
 rename_i te ht
 split at h
 ·rename_i key
  obtain ⟨a1, a2, a3, l, ⟨a, c, hv⟩, k, _, a4⟩ := xne (ty := ty) hH ht h
  refine ⟨a1, a2, a3, fun hp => ?_⟩
  obtain ⟨_, _, w', r1, r2⟩ := a4 hp
  refine ⟨w', ?_, r2⟩
  have e : xgJ (E key) k (loN none) ((none : Option Int).getD l.length).toNat = E key := by
   simp only [xgJ, hv, sliced, loN, Option.getD_none, Int.toNat_natCast, Nat.sub_zero, Nat.zero_mul]
   split
   ·rfl
   ·cases a with
    | none => rfl
    | some a => simp only [Option.map_some, xtU]
  rw [e] at r1
  exact r1
 ·rename_i key sz lo hi
  obtain ⟨a1, a2, a3, l, ⟨a, c, hv⟩, k, hk, a4⟩ := xne (ty := ty) hH ht h
  have hk : sz = k := by rcases hk with hk | hk <;> cases hk; rfl
  subst hk
  exact ⟨a1, a2, a3, fun hp => by obtain ⟨_, _, w', r1, r2⟩ := a4 hp; exact ⟨w', r1, r2⟩⟩
 ·cases h
theorem xvs (hH : xag X E w0 ⟨objs, n⟩ w) {t : TypeId} {v : AV} {lo : Option Int} {hi mx : Int} {x : Eff} (h : xqg P objs K t v lo hi mx = some x) {lov : Option Value} (hlo : xwu lov lo) {hiv mxv : Value} (h1 : ∃ k, hiv = .int k hi) (h2 : ∃ k, mxv = .int k mx) :
  xe7 n objs K x ∧ x.nk = 1 ∧ (x.holds → ∃ E' w', (Instr.sliceAt t (v.den E) lov (some hiv) (some mxv)).run P w = .ok (x.v.den E') w' ∧ xhI E objs w K x E' w') := by
 obtain ⟨k, rfl⟩ := h1
 obtain ⟨k', rfl⟩ := h2
 unfold xqg at h
 split at h
 case h_2 => cases h
 rename_i key
 split at h
 case h_2 => cases h
 rename_i o hf
 split at h
 case h_2 => cases h
 rename_i e ks l hr
 split at h
 case h_2 => cases h
 rename_i te hu
 split at h
 case isFalse => cases h
 rename_i hc
 cases h
 obtain ⟨rfl, hs⟩ := hc
 obtain ⟨hm, hk⟩ := xah hf
 subst hk
 obtain ⟨a, c, hv, hmc, _⟩ := (xbT hr (hH.objs _ hm)).reads.is
 refine ⟨⟨by simp, by simp, by simp, by simp, Or.inr (Nat.lt_succ_self K), by simp⟩, rfl, fun hp => ?_⟩
 obtain ⟨q1, q2, q3, q4⟩ : 0 ≤ lo.getD 0 ∧ lo.getD 0 ≤ hi ∧ hi ≤ mx ∧ mx ≤ (l.length : Int) := hp
 obtain ⟨M, rfl⟩ : ∃ M : Nat, mx = M := ⟨mx.toNat, by omega⟩
 obtain ⟨H, rfl⟩ : ∃ H : Nat, hi = H := ⟨hi.toNat, by omega⟩
 have b1 : M ≤ c := by omega
 have b2 : H ≤ M := by omega
 let L : Nat := (lo.getD 0).toNat
 let u : Value := .slice (if M = L then a else a.map (·.add (L * ks.length))) (H - L) (M - L)
 refine ⟨fun k => if k = K then u else E k, w, ?_, fun k hk => if_neg (by simp at hk; omega), fun k => ?_, Chg.refl _ _, by simp, by simp, by simp, by simp, by simp, by simp, by simp⟩
 ·simp only [AV.den, if_true, hv]
  cases lo with
  | none =>
   have hlo : lov = none := hlo
   subst hlo
   have hL : L = 0 := rfl
   simp [Instr.sliceAt, Instr.slice, Instr.sliceBounds, Instr.sliceBound, run_underlying hu, xcV hs, asIntOf, b1, b2, u, hL]
  | some m =>
   obtain ⟨k2, rfl⟩ := hlo
   obtain ⟨L', rfl⟩ : ∃ L' : Nat, m = L' := ⟨m.toNat, by simp at q1; omega⟩
   have b3 : L' ≤ H := by simp at q2; omega
   have hL : L = L' := rfl
   simp [Instr.sliceAt, Instr.slice, Instr.sliceBounds, Instr.sliceBound, run_underlying hu, xcV hs, asIntOf, b1, b2, b3, u, hL]
 ·by_cases hk : k = K
  ·simp [hk]; rfl
  ·simp [hk, hH.env k]
end
end Go.Sy
