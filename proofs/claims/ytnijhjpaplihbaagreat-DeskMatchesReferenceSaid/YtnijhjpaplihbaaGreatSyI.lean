/-
 The executor's operations are sound: parts of slices, append, and the theorem for one operation.
-/
import Derived.Test.YtnijhjpaplihbaaGreatSyG
set_option linter.unusedVariables false
namespace Go.Sy
open Go.RowKit
section
variable {P : Program} {X : List (Nat × Go.Obj)} {E : Env} {w0 w : World} {objs : List Obj} {n K : Nat} {ρ : Operand → Option AV} {e : Operand → Value}
theorem xvF (ks : List CK) (l : List (List Int)) (lo hi : Nat) : rowV ks ((l.take hi).drop lo) = ((rowV ks l).take (hi * ks.length)).drop (lo * ks.length) := by
 have hdrop : ∀ (l : List (List Int)) (k : Nat), rowV ks (l.drop k) = (rowV ks l).drop (k * ks.length) := by
  intro l
  induction l with
  | nil => intro k; simp [rowV]
  | cons a r ih =>
   intro k
   cases k with
   | zero => simp
   | succ k =>
    have := ih k
    simp only [rowV, List.flatMap_cons, List.drop_succ_cons] at *
    rw [this, List.drop_append, xep, List.drop_of_length_le (l := elV ks 0 a) (by rw [xep, Nat.add_mul, Nat.one_mul]; omega), List.nil_append]
    congr 1
    rw [Nat.add_mul, Nat.one_mul]; omega
 have htake : ∀ (l : List (List Int)) (k : Nat), rowV ks (l.take k) = (rowV ks l).take (k * ks.length) := by
  intro l
  induction l with
  | nil => intro k; simp [rowV]
  | cons a r ih =>
   intro k
   cases k with
   | zero => simp [rowV]
   | succ k =>
    have := ih k
    simp only [rowV, List.flatMap_cons, List.take_succ_cons] at *
    rw [this, List.take_append, xep, List.take_of_length_le (l := elV ks 0 a) (by rw [xep, Nat.add_mul, Nat.one_mul]; omega)]
    congr 2
    rw [Nat.add_mul, Nat.one_mul]; omega
 rw [hdrop, htake]
theorem xyL {a : Option Addr} {lo hi c s m b : Nat} (h : blkO (sliced a lo hi c s) = some b) : blkO (.slice a m c) = some b := by
 unfold sliced at h
 cases a with
 | none => split at h <;> cases h
 | some a =>
  by_cases hc : c = lo
  ·subst hc
   simp [blkO] at h
  ·rw [if_neg hc] at h
   simp only [Option.map_some, blkO] at h
   split at h
   ·cases h
   ·rename_i hne
    cases h
    simp [blkO, xka]
    omega
theorem xzN {own : Bool} {te : TypeId} {ks : List CK} {v : Value} {l : List (List Int)} {a : Option Addr} {c : Nat} (hr : xbc w own te ks.length v l.length (rowV ks l)) (hv : v = .slice a l.length c) {lo hi : Nat} (h1 : lo ≤ hi) (h2 : hi ≤ l.length) :
  xbc w false te ks.length (sliced a lo hi c ks.length) ((l.take hi).drop lo).length (rowV ks ((l.take hi).drop lo)) := by
 obtain ⟨a', c', hv', hmc, hmax⟩ := hr.reads.is
 rw [hv] at hv'
 cases hv'
 have hlen : ((l.take hi).drop lo).length = hi - lo := by simp; omega
 refine ⟨⟨⟨_, _, by rw [hlen]; rfl, by rw [hlen]; omega, by omega⟩, ?_, fun b hb => hr.reads.blk b (by rw [hv]; exact xyL hb)⟩, by rw [xbn], fun h => by cases h⟩
 intro j u hj
 rw [xvF, List.getElem?_drop, List.getElem?_take] at hj
 split at hj
 ·rename_i hjl
  obtain ⟨b, hb, hc⟩ := hr.reads.cell _ _ hj
  rw [hv] at hb
  have hb : a = some b := hb
  subst hb
  have hne : ¬ (c = lo) := by
   intro e
   subst e
   have : (rowV ks l).length = l.length * ks.length := xbn ks l
   have h3 := (List.getElem?_eq_some_iff.1 hj).1
   have h4 : l.length * ks.length ≤ c * ks.length := Nat.mul_le_mul_right _ hmc
   omega
  refine ⟨b.add (lo * ks.length), by simp [sliced, hne, xoe], ?_⟩
  rw [xni]
  exact hc
 ·cases hj
theorem xxI {n : Nat} {lo hi : Option Int} (hp : (xaz n lo hi).1) : ∃ a b : Nat, a ≤ b ∧ b ≤ n ∧ loN (xaz n lo hi).2.1 = a ∧ (xaz n lo hi).2.2.toNat = b ∧ (match lo with | none => a = 0 | some x => 0 ≤ x ∧ x = (a : Int)) ∧ (match hi with | none => b = n | some x => 0 ≤ x ∧ x = (b : Int)) := by
 cases lo with
 | none => cases hi with
  | none => exact ⟨0, n, Nat.zero_le _, Nat.le_refl _, rfl, by simp [xaz], rfl, rfl⟩
  | some x =>
   have hp : 0 ≤ x ∧ x ≤ (n : Int) := hp
   exact ⟨0, x.toNat, Nat.zero_le _, by omega, rfl, rfl, rfl, hp.1, by omega⟩
 | some y => cases hi with
  | none =>
   have hp : 0 ≤ y ∧ y ≤ (n : Int) := hp
   exact ⟨y.toNat, n, by omega, Nat.le_refl _, rfl, by simp [xaz], ⟨hp.1, by omega⟩, rfl⟩
  | some x =>
   have hp : 0 ≤ y ∧ y ≤ x ∧ x ≤ (n : Int) := hp
   exact ⟨y.toNat, x.toNat, by omega, by omega, rfl, rfl, ⟨hp.1, by omega⟩, by omega, by omega⟩
def xwu (v : Option Value) : Option Int → Prop
 | none => v = none
 | some m => ∃ k, v = some (.int k m)
theorem xlI (hρ : ∀ x v, ρ x = some v → e x = v.den E) {x : Option Operand} {y : Option Int} (h : xvM ρ x = some y) : xwu (x.map e) y := by
 cases x with
 | none => cases h; rfl
 | some o =>
  simp only [xvM] at h
  cases hv : ρ o with
  | none => rw [hv] at h; cases h
  | some v =>
   rw [hv] at h
   simp only [] at h
   cases hi : intA v with
   | none => rw [hi] at h; cases h
   | some m =>
    rw [hi] at h
    cases h
    obtain ⟨k, hk⟩ := xr5 hi E
    exact ⟨k, by simp [hρ o v hv, hk]⟩
theorem xuK {t te : TypeId} (hu : P.underlying t = some (.slice te)) {sz : Nat} (hs : xkG P te = some sz) {a : Option Addr} {len c : Nat} {lo hi : Option Value} {x y : Nat} (h1 : x ≤ y) (h2 : y ≤ c)
  (hlo : (lo = none ∧ x = 0) ∨ ∃ k m, lo = some (.int k m) ∧ m = (x : Int)) (hhi : (hi = none ∧ y = len) ∨ ∃ k m, hi = some (.int k m) ∧ m = (y : Int)) :
  (Instr.sliceAt t (.slice a len c) lo hi none).run P w = .ok (sliced a x y c sz) w := by
 have he : P.elem t = te := by simp [Program.elem, hu]
 have ht : P.underlying t = some (.slice (P.elem t)) := by rw [he]; exact hu
 rw [run_sliceAt_slice w t _ _ _ _ ht]
 rcases hlo with ⟨rfl, rfl⟩ | ⟨k, m, rfl, rfl⟩ <;> rcases hhi with ⟨rfl, rfl⟩ | ⟨k', m', rfl, rfl⟩
 ·rw [run_slice_all w t a _ c ht, he, xcV hs]; rfl
 ·rw [run_slice_h w t a len c ht k' _ (by omega) (by omega), he, xcV hs]; simp [Result.andThen]
 ·rw [run_slice_l w t a _ c ht k _ (by omega) (by omega), he, xcV hs]; simp [Result.andThen]
 ·rw [run_slice_lh w t a len c ht k k' _ _ (by omega) (by omega) (by omega), he, xcV hs]; simp [Result.andThen]
theorem xxb (a : Option Addr) (sz : Nat) : a.map (·.add (0 * sz)) = a := by
 rw [Nat.zero_mul]
 cases a with
 | none => rfl
 | some a => rfl
theorem xwI (hH : xag X E w0 ⟨objs, n⟩ w) {t : TypeId} {v : AV} {lo hi : Option Int} {x : Eff} (hv : AV.all (fun k => k < n) v) (h : xsm P objs t v lo hi = some x) {lov hiv : Option Value}
  (hlo : xwu lov lo) (hhi : xwu hiv hi) :
  ∃ p u, x = ⟨p, [], 0, [], u⟩ ∧ AV.all (fun k => k < n) u ∧ (x.holds → (Instr.sliceAt t (v.den E) lov hiv none).run P w = .ok (u.den E) w) := by
 have key : ∀ (k0 : Nat) (sz : Option Nat) (hi' : Option Int), xkZ P objs t k0 sz lo hi' = some x → k0 < n → (sz = none → v = .sl k0 ∧ hi' = hi) → (∀ s, sz = some s → ∃ h0, v = .vw k0 s none h0 ∧ hi' = some (hi.getD h0)) →
   ∃ p u, x = ⟨p, [], 0, [], u⟩ ∧ AV.all (fun k => k < n) u ∧ (x.holds → (Instr.sliceAt t (v.den E) lov hiv none).run P w = .ok (u.den E) w) := by
  intro k0 sz hi' h hv hn hsome
  unfold xkZ at h
  cases hf : xai k0 objs with
  | none => rw [hf] at h; cases h
  | some o =>
  rw [hf] at h
  simp only [] at h
  cases hr : xe6 P o.body with
  | none => rw [hr] at h; cases h
  | some y =>
  obtain ⟨e', ks, l⟩ := y
  rw [hr] at h
  simp only [] at h
  split at h
  case h_2 => cases h
  rename_i te hu
  by_cases hc : e' = te ∧ xkG P e' = some ks.length ∧ (sz = none ∨ sz = some ks.length)
  case neg => rw [if_neg hc] at h; cases h
  rw [if_pos hc] at h
  cases h
  obtain ⟨rfl, hs, hsz⟩ := hc
  obtain ⟨hm, hk⟩ := xah hf
  subst hk
  have hrow : xbc w o.own e' ks.length (E o.key) l.length (rowV ks l) := xbT hr (hH.objs _ hm)
  obtain ⟨a, c, hEk, hlc, hmax⟩ := hrow.reads.is
  refine ⟨_, _, rfl, hv, fun hp => ?_⟩
  obtain ⟨x, y, h1, h2, h3, h4, h5, h6⟩ := xxI hp
  have hden : (AV.vw o.key ks.length (xaz l.length lo hi').2.1 (xaz l.length lo hi').2.2).den E = sliced a x y c ks.length := by
   simp only [AV.den, xgJ, hEk, h3, h4]
  rw [hden]
  rcases hsz with rfl | rfl
  ·obtain ⟨rfl, rfl⟩ := hn rfl
   simp only [AV.den]
   rw [hEk]
   refine xuK hu hs h1 (Nat.le_trans h2 hlc) ?_ ?_
   ·cases lo with
    | none => exact .inl ⟨hlo, h5⟩
    | some m => obtain ⟨k, hk⟩ := hlo; exact .inr ⟨k, m, hk, h5.2⟩
   ·cases hi' with
    | none => exact .inl ⟨hhi, h6⟩
    | some m => obtain ⟨k, hk⟩ := hhi; exact .inr ⟨k, m, hk, h6.2⟩
  ·obtain ⟨h0, rfl, rfl⟩ := hsome _ rfl
   have e0 : (AV.vw o.key ks.length none h0).den E = .slice a h0.toNat c := by
    simp only [AV.den, xgJ, hEk, sliced, loN, xxb, ite_self, Nat.sub_zero]
   rw [e0]
   refine xuK hu hs h1 (Nat.le_trans h2 hlc) ?_ ?_
   ·cases lo with
    | none => exact .inl ⟨hlo, h5⟩
    | some m => obtain ⟨k, hk⟩ := hlo; exact .inr ⟨k, m, hk, h5.2⟩
   ·have h6 : 0 ≤ hi.getD h0 ∧ hi.getD h0 = (y : Int) := h6
    cases hi with
    | none => exact .inl ⟨hhi, by have := h6.2; simp only [Option.getD_none] at this; omega⟩
    | some m => obtain ⟨k, hk⟩ := hhi; exact .inr ⟨k, m, hk, h6.2⟩
 unfold xsm at h
 split at h
 ·rename_i k0
  exact key k0 none hi h hv (fun _ => ⟨rfl, rfl⟩) (fun s hs => by cases hs)
 ·rename_i k0 sz h0
  exact key k0 (some sz) _ h hv (fun hs => by cases hs) (fun s hs => by cases hs; exact ⟨h0, rfl, rfl⟩)
 ·cases h
theorem xB9 {own : Bool} {te : TypeId} {ks : List CK} {key : Nat} {l : List (List Int)} (hr : xbc w own te ks.length (E key) l.length (rowV ks l)) {lo : Option Int} {hi : Int} (hp : xAa l lo hi) :
  xbc w false te ks.length ((AV.vw key ks.length lo hi).den E) (cutV l lo hi).length (rowV ks (cutV l lo hi)) := by
 obtain ⟨a, c, hv, _, _⟩ := hr.reads.is
 obtain ⟨h1, h2⟩ := hp
 simp only [AV.den, xgJ, hv]
 exact xzN hr hv (by omega) (by omega)
theorem xzM {t te : TypeId} (hu : P.underlying t = some (.slice te)) {sz : Nat} (hs : xkG P te = some sz) {a : Option Addr} {len c : Nat} {k k' : IntKind} :
  (Instr.sliceAt t (.slice a len c) none (some (.int k 0)) (some (.int k' 0))).run P w = .ok (.slice a 0 0) w := by
 simp [Instr.sliceAt, Instr.slice, Instr.sliceBounds, Instr.sliceBound, run_underlying hu, xcV hs, asIntOf]
theorem xfw {te : TypeId} {sz : Nat} {v : Value} {m : Nat} {vs : List Value} (ho : xor w te sz v m vs) (hl : vs.length = m * sz) : xbc w true te sz v m vs := by
 refine ⟨?_, hl, fun _ => ho⟩
 rcases ho with ⟨a, rfl, rfl⟩ | ⟨g, cap, cur, rfl, hg, h1, h2, h3, h4⟩
 ·have : vs = [] := List.eq_nil_of_length_eq_zero (by simpa using hl)
  subst this
  refine ⟨⟨_, _, rfl, Nat.le_refl _, Nat.zero_le _⟩, by simp, fun b hb => ?_⟩
  cases a <;> cases hb
 ·refine ⟨⟨_, _, rfl, h1, h2⟩, fun j u hj => ⟨⟨g, 0, none⟩, rfl, ?_⟩, fun b hb => ?_⟩
  ·rw [xiG, Nat.zero_add]
   rw [← h4, List.getElem?_take] at hj
   split at hj
   ·simp only [World.cell?, hg]
    simpa using hj
   ·cases hj
  ·have hb : (if cap = 0 then none else some g) = some b := hb
   split at hb
   ·cases hb
   ·cases hb; exact (Array.getElem?_eq_some_iff.1 hg).1
theorem xzV {te : TypeId} {sz : Nat} {v : Value} {m : Nat} {vs : List Value} (h : w.ownsRow 0 te sz v m vs) : xor w te sz v m vs := by
 rcases h.2 with ⟨rfl, rfl⟩ | ⟨g, cap, cur, rfl, _, hg, h1, h2, h3, h4⟩
 ·exact .inl ⟨none, rfl, rfl⟩
 ·exact .inr ⟨g, cap, cur, rfl, hg, h1, h2, h3, h4⟩
theorem xvc {t ty te : TypeId} {ie : TypeInfo} (ht : P.underlying t = some (.slice te)) (hi : P.info? te = some ie) {z : Value} (hz : ie.zero = some z) (hzs : z.cells.size = ie.size) (h0 : ie.size ≠ 0)
  {v v2 : Value} {m m2 : Nat} {vs ws : List Value} (ho : xor w te ie.size v m vs) (hl : vs.length = m * ie.size) (hs : xxN w v2 m2 ws) (hwl : ws.length = m2 * ie.size) (h1 : ∀ u ∈ ws, u.oneCell' = true) (hf : xcI ie.bytes (m + m2)) :
  ∃ v' w', (Builtin.append_ #[t, t] ty #[v, v2]).run P w = .ok v' w' ∧ xor w' te ie.size v' (m + m2) (vs ++ ws) ∧ Chg w w' (blkO v).toList ∧ (∀ b, blkO v' = some b → w.heap.size ≤ b ∨ blkO v = some b) ∧ v'.oneCell' = true := by
 obtain ⟨f1, f2⟩ := hf
 obtain ⟨a2, c2, rfl, _, _⟩ := hs.is
 by_cases hm2 : m2 = 0
 ·subst hm2
  have hws : ws = [] := List.eq_nil_of_length_eq_zero (by simpa using hwl)
  subst hws
  have run0 : ∀ (a : Option Addr) (len c : Nat), len ≤ c → (Builtin.append_ #[t, t] ty #[.slice a len c, .slice a2 0 c2]).run P w = .ok (.slice a len c) w := by
   intro a len c hlc
   cases a with
   | none => cases a2 <;> simp [Builtin.append_, run_underlying ht, sizeOf, typeInfo, hi, Builtin.lenOf, Builtin.firstCells, loadCells, loadCellsFrom, hlc]
   | some a => cases a2 <;> simp [Builtin.append_, run_underlying ht, sizeOf, typeInfo, hi, Builtin.lenOf, Builtin.firstCells, loadCells, loadCellsFrom, storeCells, hlc]
  rcases ho with ⟨a, rfl, rfl⟩ | ⟨g, cap, cur, rfl, hg, g1, g2, g3, g4⟩
  ·exact ⟨_, w, run0 a 0 0 (Nat.le_refl _), .inl ⟨a, rfl, rfl⟩, Chg.refl _ _, fun b hb => .inr hb, rfl⟩
  ·exact ⟨_, w, run0 _ m cap g1, .inr ⟨g, cap, cur, rfl, hg, g1, g2, g3, by simpa using g4⟩, Chg.refl _ _, fun b hb => .inr hb, rfl⟩
 ·have hne : ws ≠ [] := by
   intro e
   rw [e] at hwl
   have := (Nat.mul_eq_zero.1 hwl.symm)
   omega
  obtain ⟨u0, hu0⟩ : ∃ u0, ws[0]? = some u0 := ⟨_, List.getElem?_eq_getElem (List.length_pos_iff.2 hne)⟩
  obtain ⟨ad, had, _⟩ := hs.cell 0 u0 hu0
  have had : a2 = some ad := had
  subst had
  have hnews : ∀ j u, ws[j]? = some u → w.cell? (ad.add j) = some u := by
   intro j u hj
   obtain ⟨a', ha', hc⟩ := hs.cell j u hj
   cases ha'
   exact hc
  have kit : ∀ {v : Value}, w.ownsRow 0 te ie.size v m vs → (blkO v = v.ownBlock) → ∃ v' w', (Builtin.append_ #[t, t] ty #[v, .slice (some ad) m2 c2]).run P w = .ok v' w' ∧ xor w' te ie.size v' (m + m2) (vs ++ ws) ∧ Chg w w' (blkO v).toList ∧ (∀ b, blkO v' = some b → w.heap.size ≤ b ∨ blkO v = some b) ∧ v'.oneCell' = true := by
   intro v hown hbo
   obtain ⟨v', w', hr, hown', hg, _⟩ := run_append_own (P := P) w 0 t ty te ie z ie.size ie.bytes ht hi hz rfl rfl hzs (by omega) v m vs hown ad m2 c2 ws hwl hnews h1 f2 f1 (Nat.zero_le _)
   have hdr : w.drawn ≤ w'.drawn := by
    rcases hown.2 with ⟨rfl, rfl⟩ | ⟨g, cap, cur, rfl, _, hgg, g1, g2, g3, g4⟩
    ·have hr2 := run_append_nil (P := P) w t ty te ie z ht hi hz ad m2 c2 ws hwl hnews (by omega) (by simp only [maxLen] at f2; omega) (by simp only [Nat.zero_add] at f1; omega)
     rw [hr2] at hr
     cases hr
     exact Nat.le_succ _
    ·by_cases hroom : m + m2 ≤ cap
     ·have hfit : m * ie.size + ws.length ≤ cur.size := by rw [hwl, g3, ← Nat.add_mul]; exact Nat.mul_le_mul_right _ hroom
      have hr2 := run_append_room (P := P) w t ty te ie ht hi g m cap cur hgg ad m2 c2 ws hwl hnews h1 hroom hfit
      rw [hr2] at hr
      cases hr
      exact Nat.le_refl _
     ·have hx : vs.length = m * ie.size := hown.1
      have holds : ∀ j u, vs[j]? = some u → w.cell? ((⟨g, 0, none⟩ : Addr).add j) = some u := hown.cells (g := g) rfl
      have hr2 := run_append_grow (P := P) w t ty te ie z ht hi hz ⟨g, 0, none⟩ m cap vs hx holds ad m2 c2 ws hwl hnews (by omega) (by simp only [maxLen] at f2; omega) (growslice_fits (by omega) f1)
      rw [hr2] at hr
      cases hr
      exact Nat.le_succ _
   refine ⟨v', w', hr, xzV hown', Chg.of_grown hdr hg (fun k hk => by rw [hbo, hk]; simp), ?_, ?_⟩
   ·intro b hb
    rcases hown.2 with ⟨rfl, rfl⟩ | ⟨g, cap, cur, rfl, _, hgg, g1, g2, g3, g4⟩
    ·have hx : vs = [] := List.eq_nil_of_length_eq_zero (by simpa using hown.1)
     subst hx
     have hr2 := run_append_nil (P := P) w t ty te ie z ht hi hz ad m2 c2 ws hwl hnews (by omega) (by simp only [maxLen] at f2; omega) (by simp only [Nat.zero_add] at f1; omega)
     rw [hr2] at hr
     cases hr
     have hb : (if grownCap w m2 0 te = 0 then none else some w.heap.size) = some b := hb
     split at hb
     ·cases hb
     ·cases hb; exact .inl (Nat.le_refl _)
    ·by_cases hroom : m + m2 ≤ cap
     ·have hfit : m * ie.size + ws.length ≤ cur.size := by rw [hwl, g3, ← Nat.add_mul]; exact Nat.mul_le_mul_right _ hroom
      have hr2 := run_append_room (P := P) w t ty te ie ht hi g m cap cur hgg ad m2 c2 ws hwl hnews h1 hroom hfit
      rw [hr2] at hr
      cases hr
      have hb : (if cap = 0 then none else some g) = some b := hb
      exact .inr hb
     ·have hx : vs.length = m * ie.size := hown.1
      have holds : ∀ j u, vs[j]? = some u → w.cell? ((⟨g, 0, none⟩ : Addr).add j) = some u := hown.cells (g := g) rfl
      have hr2 := run_append_grow (P := P) w t ty te ie z ht hi hz ⟨g, 0, none⟩ m cap vs hx holds ad m2 c2 ws hwl hnews (by omega) (by simp only [maxLen] at f2; omega) (growslice_fits (by omega) f1)
      rw [hr2] at hr
      cases hr
      have hb : (if grownCap w (m + m2) cap te = 0 then none else some w.heap.size) = some b := hb
      split at hb
      ·cases hb
      ·cases hb; exact .inl (Nat.le_refl _)
   ·rcases hown'.2 with ⟨rfl, _⟩ | ⟨g, cap, cur, rfl, _⟩ <;> rfl
  rcases ho with ⟨a, rfl, rfl⟩ | ⟨g, cap, cur, rfl, hg, g1, g2, g3, g4⟩
  ·have hx : vs = [] := List.eq_nil_of_length_eq_zero (by simpa using hl)
   subst hx
   cases a with
   | none => exact kit (v := .slice none 0 0) ⟨by simp, .inl ⟨rfl, rfl⟩⟩ rfl
   | some a =>
    have hr := run_append_grow (P := P) w t ty te ie z ht hi hz a 0 0 [] (by simp) (by simp) ad m2 c2 ws hwl hnews (by omega) (by simp only [maxLen] at f2; omega) (growslice_fits (by omega) f1)
    refine ⟨_, _, hr, ?_, ?_, ?_, rfl⟩
    ·have hge := grownCap_ge w (0 + m2) 0 te
     have hcm := grownCap_le_maxLen w (0 + m2) 0 te f2
     refine .inr ⟨w.heap.size, _, _, rfl, xb8 w.drew _, hge, hcm, ?_, ?_⟩
     ·simp only [Array.size_append, List.size_toArray, size_zeroCells, hzs, hwl, List.length_nil]
      rw [show (0 : Nat) + m2 * ie.size + (grownCap w (0 + m2) 0 te - (0 + m2)) * ie.size = (m2 + (grownCap w (0 + m2) 0 te - (0 + m2))) * ie.size from by rw [Nat.add_mul]; omega]
      congr 1
      omega
     ·simp only [Array.toList_append, List.nil_append, Nat.zero_add]
      rw [← hwl]
      simp
    ·exact Chg.of_below ((Blw.refl _ _).drew.alloc (Nat.le_refl _) _) _
    ·intro b hb
     have hb : (if grownCap w (0 + m2) 0 te = 0 then none else some w.heap.size) = some b := hb
     split at hb
     ·cases hb
     ·cases hb; exact .inl (Nat.le_refl _)
  ·by_cases hc0 : cap = 0
   ·subst hc0
    have hm0 : m = 0 := by omega
    subst hm0
    have hx : vs = [] := List.eq_nil_of_length_eq_zero (by simpa using hl)
    subst hx
    have hr := run_append_grow (P := P) w t ty te ie z ht hi hz ⟨g, 0, none⟩ 0 0 [] (by simp) (by simp) ad m2 c2 ws hwl hnews (by omega) (by simp only [maxLen] at f2; omega) (growslice_fits (by omega) f1)
    refine ⟨_, _, hr, ?_, ?_, ?_, rfl⟩
    ·have hge := grownCap_ge w (0 + m2) 0 te
     have hcm := grownCap_le_maxLen w (0 + m2) 0 te f2
     refine .inr ⟨w.heap.size, _, _, rfl, xb8 w.drew _, hge, hcm, ?_, ?_⟩
     ·simp only [Array.size_append, List.size_toArray, size_zeroCells, hzs, hwl, List.length_nil]
      rw [show (0 : Nat) + m2 * ie.size + (grownCap w (0 + m2) 0 te - (0 + m2)) * ie.size = (m2 + (grownCap w (0 + m2) 0 te - (0 + m2))) * ie.size from by rw [Nat.add_mul]; omega]
      congr 1
      omega
     ·simp only [Array.toList_append, List.nil_append, Nat.zero_add]
      rw [← hwl]
      simp
    ·exact Chg.of_below ((Blw.refl _ _).drew.alloc (Nat.le_refl _) _) _
    ·intro b hb
     have hb : (if grownCap w (0 + m2) 0 te = 0 then none else some w.heap.size) = some b := hb
     split at hb
     ·cases hb
     ·cases hb; exact .inl (Nat.le_refl _)
   ·exact kit (v := .slice (some ⟨g, 0, none⟩) m cap) ⟨hl, .inr ⟨g, cap, cur, rfl, Nat.zero_le _, hg, g1, g2, g3, g4⟩⟩ (by simp [blkO, hc0, Value.ownBlock])
end
end Go.Sy
