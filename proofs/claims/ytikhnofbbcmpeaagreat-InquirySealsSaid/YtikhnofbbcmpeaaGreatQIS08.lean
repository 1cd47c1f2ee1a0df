/- Several texts in one (wip/pack.py): XInqPh XInqPi XInqPj XInqPk XInqPl XInqPm XInqPq XInqPr XInqPs XInqQ0 XInqQSeals. -/
import Derived.Test.YtikhnofbbcmpeaaGreatQIS05
import Derived.Test.YtikhnofbbcmpeaaGreatQIS07
set_option linter.unusedVariables false
set_option maxRecDepth 100000
namespace Go.Proofs.YtikhnofbbcmpeaaGreat
open Go Go.Sy
abbrev Key := Int × Int
def kOf (g : List Int) : Key := (col g 0, col g 1)
def ltK (a b : Key) : Prop := a.1 < b.1 ∨ (a.1 = b.1 ∧ a.2 < b.2)
def cntF (logs : List ALog) (tm dl : Int) (c : List Int) : Bool := !xtm logs tm dl c
def mkG (office : List (List Int)) (logs : List ALog) (tm dl : Int) (list : List (List Int)) (k : Key) : List Int :=
 [k.1, k.2, b2 (!xve k.2 (-1) office), b2 (list.all fun c => !(cntF logs tm dl c && decide (kOf c = k)) || offF logs c)]
theorem b2_b (b : Bool) : b2 (b2 b != 0) = b2 b := by cases b <;> rfl
theorem xnh (c g : List Int) : xe5 c g = decide (kOf c = kOf g) := by
 unfold xe5 kOf
 by_cases h : (col c 0, col c 1) = (col g 0, col g 1)
 ·rw [decide_eq_true h]
  obtain ⟨h1, h2⟩ := Prod.mk.inj h
  rw [show g.getD 0 0 = c.getD 0 0 from h1.symm, show g.getD 1 0 = c.getD 1 0 from h2.symm]
  simp
 ·rw [decide_eq_false h]
  cases hb : (g.getD 0 0 == c.getD 0 0 && g.getD 1 0 == c.getD 1 0) with
  | false => rfl
  | true =>
   rw [Bool.and_eq_true, beq_iff_eq, beq_iff_eq] at hb
   exact absurd (Prod.ext hb.1.symm hb.2.symm) h
theorem xmp (office : List (List Int)) (logs : List ALog) (tm dl : Int) : ∀ (r done : List (List Int)) (ks : List Key), ks.Nodup → (∀ k, k ∈ ks ↔ ∃ c ∈ done, cntF logs tm dl c = true ∧ kOf c = k) →
  ∃ ks' : List Key, ks'.Nodup ∧ (∀ k, k ∈ ks' ↔ ∃ c ∈ done ++ r, cntF logs tm dl c = true ∧ kOf c = k) ∧ r.foldl (xle office logs tm dl) (ks.map (mkG office logs tm dl done)) = ks'.map (mkG office logs tm dl (done ++ r))
 | [], done, ks, hn, hk => ⟨ks, hn, by simpa using hk, by simp⟩
 | c :: r, done, ks, hn, hk => by
  rw [List.foldl_cons]
  have emk : ∀ k, cntF logs tm dl c = false ∨ kOf c ≠ k → mkG office logs tm dl (done ++ [c]) k = mkG office logs tm dl done k := fun k h => by
   unfold mkG
   have : (!(cntF logs tm dl c && decide (kOf c = k)) || offF logs c) = true := by
    rcases h with h | h
    ·rw [h]; rfl
    ·rw [decide_eq_false h, Bool.and_false]; rfl
   rw [List.all_append, List.all_cons, List.all_nil, this, Bool.true_and, Bool.and_true]
  cases hs : xtm logs tm dl c with
  | true =>
   have hc : cntF logs tm dl c = false := by unfold cntF; rw [hs]; rfl
   have e : xle office logs tm dl (ks.map (mkG office logs tm dl done)) c = ks.map (mkG office logs tm dl (done ++ [c])) := by
    unfold xle
    rw [hs, cond_true]
    exact List.map_congr_left fun k _ => (emk k (.inl hc)).symm
   rw [e]
   have hk' : ∀ k, k ∈ ks ↔ ∃ x ∈ done ++ [c], cntF logs tm dl x = true ∧ kOf x = k := fun k => by
    rw [hk]
    constructor
    ·rintro ⟨x, hx, h⟩; exact ⟨x, List.mem_append.2 (.inl hx), h⟩
    ·rintro ⟨x, hx, h⟩
     rcases List.mem_append.1 hx with hx | hx
     ·exact ⟨x, hx, h⟩
     ·rw [List.mem_singleton.1 hx, hc] at h
      cases h.1
   have := xmp office logs tm dl r (done ++ [c]) ks hn hk'
   simpa [List.append_assoc] using this
  | false =>
   have hc : cntF logs tm dl c = true := by unfold cntF; rw [hs]; rfl
   have hkey : ∀ k, kOf (mkG office logs tm dl done k) = k := fun k => rfl
   have hany : (ks.map (mkG office logs tm dl done)).any (xe5 c) = decide (kOf c ∈ ks) := by
    rw [List.any_map]
    by_cases h : kOf c ∈ ks
    ·rw [decide_eq_true h, List.any_eq_true]
     exact ⟨kOf c, h, by show xe5 c (mkG office logs tm dl done (kOf c)) = true; rw [xnh, hkey]; exact decide_eq_true rfl⟩
    ·rw [decide_eq_false h, List.any_eq_false]
     intro k hk'
     show ¬ xe5 c (mkG office logs tm dl done k) = true
     rw [xnh, hkey]
     intro h'
     exact h ((of_decide_eq_true h') ▸ hk')
   by_cases hin : kOf c ∈ ks
   ·have e : xle office logs tm dl (ks.map (mkG office logs tm dl done)) c = ks.map (mkG office logs tm dl (done ++ [c])) := by
     unfold xle
     rw [hs, cond_false, hany, decide_eq_true hin, cond_true, List.map_map]
     refine List.map_congr_left fun k _ => ?_
     show (bif xe5 c (mkG office logs tm dl done k) then updF logs c (mkG office logs tm dl done k) else mkG office logs tm dl done k) = _
     rw [xnh, hkey]
     by_cases h : kOf c = k
     ·rw [decide_eq_true h, cond_true]
      show [k.1, k.2, b2 (b2 (!xve k.2 (-1) office) != 0), b2 (b2 (done.all fun c => !(cntF logs tm dl c && decide (kOf c = k)) || offF logs c) != 0 && offF logs c)] = _
      rw [b2_b, xAl]
      unfold mkG
      rw [List.all_append, List.all_cons, List.all_nil, hc, decide_eq_true h, Bool.and_true]
      rfl
     ·rw [decide_eq_false h, cond_false]
      exact (emk k (.inr h)).symm
    rw [e]
    have hk' : ∀ k, k ∈ ks ↔ ∃ x ∈ done ++ [c], cntF logs tm dl x = true ∧ kOf x = k := fun k => by
     constructor
     ·intro h
      obtain ⟨x, hx, h⟩ := (hk k).1 h
      exact ⟨x, List.mem_append.2 (.inl hx), h⟩
     ·rintro ⟨x, hx, h⟩
      rcases List.mem_append.1 hx with hx | hx
      ·exact (hk k).2 ⟨x, hx, h⟩
      ·rw [List.mem_singleton.1 hx] at h
       exact h.2 ▸ hin
    have := xmp office logs tm dl r (done ++ [c]) ks hn hk'
    simpa [List.append_assoc] using this
   ·have e : xle office logs tm dl (ks.map (mkG office logs tm dl done)) c = (ks ++ [kOf c]).map (mkG office logs tm dl (done ++ [c])) := by
     unfold xle
     rw [hs, cond_false, hany, decide_eq_false hin, cond_false, List.map_append]
     congr 1
     ·exact List.map_congr_left fun k hk' => (emk k (.inr fun h => hin (h ▸ hk'))).symm
     ·show [[col c 0, col c 1, b2 (b2 (!xve (col c 1) (-1) office) != 0), b2 (true && offF logs c)]] = [mkG office logs tm dl (done ++ [c]) (kOf c)]
      rw [b2_b]
      unfold mkG
      have hall : (done.all fun c' => !(cntF logs tm dl c' && decide (kOf c' = kOf c)) || offF logs c') = true := by
       rw [List.all_eq_true]
       intro x hx
       cases h1 : cntF logs tm dl x with
       | false => rfl
       | true =>
        have : ¬ kOf x = kOf c := fun h => hin ((hk _).2 ⟨x, hx, h1, h⟩)
        rw [decide_eq_false this]; rfl
      rw [List.all_append, List.all_cons, List.all_nil, hall, hc, decide_eq_true rfl]
      simp [kOf]
    rw [e]
    have hk' : ∀ k, k ∈ ks ++ [kOf c] ↔ ∃ x ∈ done ++ [c], cntF logs tm dl x = true ∧ kOf x = k := fun k => by
     rw [List.mem_append, hk, List.mem_singleton]
     constructor
     ·rintro (⟨x, hx, h⟩ | h)
      ·exact ⟨x, List.mem_append.2 (.inl hx), h⟩
      ·exact ⟨c, by simp, hc, h.symm⟩
     ·rintro ⟨x, hx, h⟩
      rcases List.mem_append.1 hx with hx | hx
      ·exact .inl ⟨x, hx, h⟩
      ·rw [List.mem_singleton.1 hx] at h
       exact .inr h.2.symm
    have hn' : (ks ++ [kOf c]).Nodup := List.nodup_append.2 ⟨hn, by simp, fun a ha b hb e => hin (by rw [List.mem_singleton.1 hb] at e; exact e ▸ ha)⟩
    have := xmp office logs tm dl r (done ++ [c]) (ks ++ [kOf c]) hn' hk'
    simpa [List.append_assoc] using this
theorem xvx (office : List (List Int)) (logs : List ALog) (tm dl : Int) (list : List (List Int)) : ∃ ks : List Key, ks.Pairwise ltK ∧ (∀ k, k ∈ ks ↔ ∃ c ∈ list, cntF logs tm dl c = true ∧ kOf c = k) ∧ xfN office logs tm dl list = ks.map (mkG office logs tm dl list) := by
 obtain ⟨ks, h1, h2, h3⟩ := xmp office logs tm dl list [] [] List.nodup_nil (by simp)
 have h2 : ∀ k, k ∈ ks ↔ ∃ c ∈ list, cntF logs tm dl c = true ∧ kOf c = k := h2
 have h3 : list.foldl (xle office logs tm dl) [] = ks.map (mkG office logs tm dl list) := h3
 have hp := xgR (le := leL [0, 1]) (ks.map (mkG office logs tm dl list))
 have hsort := xj4 (xgk [0, 1]) (xgj [0, 1]) (ks.map (mkG office logs tm dl list))
 have hmem : ∀ g ∈ xfM (leL [0, 1]) (ks.map (mkG office logs tm dl list)), mkG office logs tm dl list (kOf g) = g ∧ kOf g ∈ ks := fun g hg => by
  obtain ⟨k, hk, rfl⟩ := List.mem_map.1 (hp.mem_iff.1 hg)
  exact ⟨rfl, hk⟩
 have hks : ((xfM (leL [0, 1]) (ks.map (mkG office logs tm dl list))).map kOf).Perm ks := by
  have := hp.map kOf
  rw [List.map_map] at this
  have e : ks.map (kOf ∘ mkG office logs tm dl list) = ks := (List.map_congr_left fun k _ => rfl).trans (List.map_id ks)
  rwa [e] at this
 refine ⟨(xfM (leL [0, 1]) (ks.map (mkG office logs tm dl list))).map kOf, ?_, fun k => by rw [hks.mem_iff, h2], ?_⟩
 ·have hnd : ((xfM (leL [0, 1]) (ks.map (mkG office logs tm dl list))).map kOf).Nodup := hks.nodup_iff.2 h1
  rw [List.pairwise_map]
  have hne : (xfM (leL [0, 1]) (ks.map (mkG office logs tm dl list))).Pairwise fun a b => kOf a ≠ kOf b := by
   rw [← List.pairwise_map]
   exact hnd
  refine (List.Pairwise.and hsort hne).imp fun {a b} h => ?_
  obtain ⟨h1, h2⟩ := h
  unfold leL at h1
  show col a 0 < col b 0 ∨ (col a 0 = col b 0 ∧ col a 1 < col b 1)
  by_cases e0 : a.getD 0 0 = b.getD 0 0
  ·rw [if_pos e0] at h1
   unfold leL at h1
   by_cases e1 : a.getD 1 0 = b.getD 1 0
   ·exact absurd (Prod.ext e0 e1) h2
   ·rw [if_neg e1] at h1
    exact .inr ⟨e0, of_decide_eq_true h1⟩
  ·rw [if_neg e0] at h1
   exact .inl (of_decide_eq_true h1)
 ·unfold xfN xlR
  rw [h3, List.map_map]
  refine List.map_congr_left fun g hg => ?_
  obtain ⟨e, _⟩ := hmem g hg
  show xlB g = mkG office logs tm dl list (kOf g)
  rw [e]
  rw [← e]
  show [_, _, b2 (b2 _ != 0), b2 (b2 _ != 0)] = _
  rw [b2_b, b2_b]
  rfl
def xtd (gs : List (List Int)) : Prop := ∀ g ∈ gs, xlB g = g
theorem xrA {office : List (List Int)} {logs : List ALog} {tm dl : Int} {list : List (List Int)} (hch : chF list = true) : xhm (xfN office logs tm dl list) ∧ xtd (xfN office logs tm dl list) ∧ (xfN office logs tm dl list).length ≤ list.length := by
 obtain ⟨ks, h1, h2, h3⟩ := xvx office logs tm dl list
 obtain ⟨hlen, hcs⟩ := xs3 hch
 rw [h3]
 refine ⟨fun g hg => ?_, fun g hg => ?_, ?_⟩
 ·obtain ⟨k, hk, rfl⟩ := List.mem_map.1 hg
  obtain ⟨c, hc, _, rfl⟩ := (h2 k).1 hk
  have := hcs c hc
  show 0 ≤ col c 0 ∧ col c 0 ≤ 8
  omega
 ·obtain ⟨k, hk, rfl⟩ := List.mem_map.1 hg
  show [_, _, b2 (b2 _ != 0), b2 (b2 _ != 0)] = _
  rw [b2_b, b2_b]
  rfl
 ·have hl : ∀ (l : List (List Int)) (gs : List (List Int)), (l.foldl (xle office logs tm dl) gs).length ≤ gs.length + l.length := by
   intro l
   induction l with
   | nil => intro gs; simp
   | cons c r ih =>
    intro gs
    rw [List.foldl_cons]
    refine Nat.le_trans (ih _) ?_
    have : (xle office logs tm dl gs c).length ≤ gs.length + 1 := by
     unfold xle
     cases xtm logs tm dl c
     ·rw [cond_false]
      cases gs.any (xe5 c)
      ·rw [cond_false]; simp
      ·rw [cond_true]; simp
     ·rw [cond_true]; omega
    simp only [List.length_cons]
    omega
  rw [← h3]
  unfold xfN xlR
  rw [List.length_map, xeG]
  simpa using hl list []
end Go.Proofs.YtikhnofbbcmpeaaGreat
set_option linter.unusedVariables false
set_option maxRecDepth 100000
namespace Go.Proofs.YtikhnofbbcmpeaaGreat
open Go Go.Sy
def apF (g h : List Int) : Bool := !(col g 0 == col h 0 && (col g 1 == col h 1 && true)) && !((col g 2 != 0) && (col h 2 != 0) && col g 1 == col h 1) && !((col g 3 != 0) && (col h 3 != 0) && col g 0 == col h 0)
noncomputable def goP (k : Int → List (List Int) → List (List Int)) (n : Int) : List (List Int) → List (List Int)
 | [] => []
 | g :: r => if ((fewF (r.filter (apF g))).length : Int) = n - 1 then [col g 0, col g 1] :: k (n - 1) (r.filter (apF g)) else goP k n r
noncomputable def prF : Nat → Int → List (List Int) → List (List Int)
 | 0, _, _ => []
 | m + 1, n, list => if n = 0 then [] else goP (prF m) n list
theorem xqC {k : Int → List (List Int) → List (List Int)} (hk : ∀ n l, (k n l).length ≤ l.length) (n : Int) : ∀ l, (goP k n l).length ≤ l.length
 | [] => Nat.le_refl _
 | g :: r => by
  unfold goP
  split
  ·have h1 := hk (n - 1) (r.filter (apF g))
   have h2 := List.length_filter_le (apF g) r
   simp only [List.length_cons]
   omega
  ·have := xqC hk n r
   simp only [List.length_cons]
   omega
theorem xqo : ∀ (m : Nat) (n : Int) (l : List (List Int)), (prF m n l).length ≤ l.length
 | 0, _, _ => Nat.zero_le _
 | m + 1, n, l => by
  unfold prF
  split
  ·exact Nat.zero_le _
  ·exact xqC (xqo m) n l
theorem xy4 {pr : Int → List (List Int) → Prop} {g : Int → List (List Int) → List (List Int)} {n : Int} {list : List (List Int)} (hok : xtd list) (hl : list.length ≤ 1000000) {i : Nat} (hi : i < list.length) :
  xaM (xfb pr g n list [.i i]) (xll pr g n list [.i i]) ∧ gr (xoZ pr g n list [.i i]).snd 1 = (list.drop (i + 1)).filter (apF list[i]) := by
 have hw : IntKind.i64.wrap ((i : Int) + 1) = ((i + 1 : Nat) : Int) := xeA (by omega)
 have hld : (list.drop (i + 1)).length = list.length - (i + 1) := List.length_drop
 obtain ⟨h1, h2⟩ := xdL (step := xfb pr g n list [.i i]) (list.drop (i + 1)) (fun j (s : List (List Int)) => [.i j, .r s]) (fun s x => .inl (if apF list[i] x = true then s ++ [x] else s)) (fun j s => s.length ≤ j) (fun s => (2, [.i ((list.drop (i + 1)).length : Nat), .r s])) 0
  (fun j s hj _ hI => by
   have hj' : i + 1 + j < list.length := by omega
   have he : (list.drop (i + 1))[j] = list[i + 1 + j] := List.getElem_drop
   have hfit : ∀ x : List Int, xbH 24 (s.length + [x].length) := fun x => by unfold xbH maxLen; simp only [List.length_cons, List.length_nil]; omega
   refine ⟨?_, fun s' hs' => by cases hs'; exact Nat.le_trans (xsu _ _ _) (by omega)⟩
   rw [he]
   have hn := hok _ (List.getElem_mem hj')
   unfold xfb xwf xwe xyp xyr xyq
   simp only [gi_z, gr_1, gr_z, hw, xag, loN, shI, Int.toNat_natCast, xeA (show j < 9223372036854775807 by omega)]
   rw [decide_eq_true (by omega), cond_true, xaa (by omega), xaa (by unfold inR; omega), show (((i + 1 : Nat) : Int) + (j : Int)).toNat = i + 1 + j by omega, xbq hj', xbq hi, xaa (hfit _)]
   have hn' : [list[i + 1 + j].getD 0 0, list[i + 1 + j].getD 1 0, bif list[i + 1 + j].getD 2 0 != 0 then 1 else 0, bif list[i + 1 + j].getD 3 0 != 0 then 1 else 0] = list[i + 1 + j] := hn
   rw [hn']
   show (bif apF list[i] list[i + 1 + j] then _ else _) = _
   cases apF list[i] list[i + 1 + j]
   ·rw [if_neg (by decide)]; rfl
   ·rw [if_pos rfl]; rfl)
  (fun j s hj _ => by
   have : j = (list.drop (i + 1)).length := by omega
   subst this
   unfold xfb xwf
   simp only [gi_z, gr_1, gr_z, hw, xag, loN, Int.toNat_natCast, hld]
   rw [decide_eq_false (by omega)]; rfl) (s := []) (Nat.zero_le _)
 refine ⟨h1, ?_⟩
 have : xoZ pr g n list [.i i] = xaC (xfb pr g n list [.i i]) [.i ((0 : Nat) : Int), .r []] := rfl
 rw [this, h2, List.drop_zero, xho, xhA, List.nil_append]
 show gr [.i _, .r (((list.drop (i + 1)).filter (apF list[i])).map fun x => x)] 1 = _
 rw [gr_1, gr_z, List.map_id']
theorem xyn : ∀ (k n : Nat) (list : List (List Int)), n < k → n ≤ 1000000 → xhm list → xtd list → list.length ≤ 1000000 → (prx k).1 n list ∧ (prx k).2 n list = prF k n list
 | 0, n, list, hn, _, _, _, _ => by omega
 | k + 1, n, list, hn, hnb, hs, hok, hl => by
  show xtr (prx k).1 (prx k).2 n list ∧ xxR (prx k).1 (prx k).2 n list = prF (k + 1) n list
  by_cases h0 : n = 0
  ·subst h0
   exact ⟨(fun h => by cases h), rfl⟩
  ·have hn0 : ((n : Int) == 0) = false := by simpa using h0
   have key : ∀ m i, i + m = list.length → ∃ q r, xg6 (xfW (prx k).1 (prx k).2 n list) q [.i i] = some r ∧ (bif r.1.beq 1 then gr r.2 0 else []) = goP (prF k) n (list.drop i) := by
    intro m
    induction m with
    | zero =>
     intro i hi
     have hi : i = list.length := by omega
     subst hi
     refine ⟨1, (3, [.i list.length]), xiW ?_, ?_⟩
     ·unfold xfW
      simp only [gi_z, dnlt]
     ·rw [List.drop_length]; rfl
    | succ m ih =>
     intro i hi
     have hi' : i < list.length := by omega
     have hw : IntKind.i64.wrap ((i : Int) + 1) = ((i + 1 : Nat) : Int) := xeA (by omega)
     have hwn : IntKind.i64.wrap ((n : Int) - 1) = ((n - 1 : Nat) : Int) := by rw [xc2 (by omega)]; omega
     obtain ⟨q1, q2⟩ := xy4 (pr := (prx k).1) (g := (prx k).2) (n := (n : Int)) hok hl hi'
     have hsub : ∀ x ∈ (list.drop (i + 1)).filter (apF list[i]), x ∈ list := fun x hx => List.mem_of_mem_drop (List.mem_filter.1 hx).1
     have hlr : ((list.drop (i + 1)).filter (apF list[i])).length ≤ 1000000 := Nat.le_trans (List.length_filter_le _ _) (by rw [List.length_drop]; omega)
     have hs' : xhm ((list.drop (i + 1)).filter (apF list[i])) := fun x hx => hs x (hsub x hx)
     have hok' : xtd ((list.drop (i + 1)).filter (apF list[i])) := fun x hx => hok x (hsub x hx)
     obtain ⟨f1, f2⟩ := xsN hs' hlr
     obtain ⟨p1, p2⟩ := xyn k (n - 1) _ (by omega) (by omega) hs' hok' hlr
     have hplen := xqo k ((n - 1 : Nat) : Int) ((list.drop (i + 1)).filter (apF list[i]))
     have hstep : xfW (prx k).1 (prx k).2 n list [.i i] = if ((fewF ((list.drop (i + 1)).filter (apF list[i]))).length : Int) = n - 1 then some (1, [.r ([col list[i] 0, col list[i] 1] :: prF k (n - 1) ((list.drop (i + 1)).filter (apF list[i])))]) else some (0, [.i ((i + 1 : Nat) : Int)]) := by
      unfold xfW xyo
      simp only [gi_z, hw, hwn]
      rw [q2, f2, p2, dlt hi', xaa (xaK hi'), xaa (xaK hi'), xaa (by omega), xaa q1, xaa f1, xaa p1, xbp hi',
       xaa (by unfold xbH maxLen; simp only [List.length_cons, List.length_nil]; omega)]
      have en : ((n - 1 : Nat) : Int) = (n : Int) - 1 := by omega
      rw [en]
      by_cases h : ((fewF ((list.drop (i + 1)).filter (apF list[i]))).length : Int) = n - 1
      ·rw [if_pos h, h, beq_self_eq_true, cond_true]; rfl
      ·rw [if_neg h, bne h]; rfl
     rw [List.drop_eq_getElem_cons hi']
     unfold goP
     by_cases h : ((fewF ((list.drop (i + 1)).filter (apF list[i]))).length : Int) = n - 1
     ·rw [if_pos h] at hstep
      rw [if_pos h]
      refine ⟨1, _, xiW hstep, ?_⟩
      exact gr_z _ []
     ·rw [if_neg h] at hstep
      rw [if_neg h]
      obtain ⟨q, r, h1, h2⟩ := ih (i + 1) (by omega)
      exact ⟨q + 1, r, xij hstep h1, h2⟩
   obtain ⟨q, r, h1, h2⟩ := key list.length 0 (by omega)
   have hinit : xlm (prx k).1 (prx k).2 n list = [.i ((0 : Nat) : Int)] := rfl
   obtain ⟨g1, g2⟩ := xls h1
   refine ⟨fun _ => by rw [hinit]; exact g1, ?_⟩
   unfold xxR xwg
   rw [hn0, cond_false, hinit, g2]
   show _ = if (n : Int) = 0 then [] else goP (prF k) n list
   rw [if_neg (by omega)]
   exact h2
theorem xhJ (b : Bool) : (!!b) = b := by cases b <;> rfl
def xlz (gs : List (List Int)) : List (List Int) := gs.map fun g => [col g 0, col g 1]
theorem xzB {ow t delay : Int} {office ships list : List (List Int)} (ho : office.length ≤ 9223372036854775807) (hs : ships.length ≤ 9223372036854775807) (hl : list.length ≤ 9223372036854775807) (hd : xvT ships) :
  xcR ow t delay office ships list ∧ xec ow t delay office ships list = (if xmA ow t delay office (xa0 ships) list = true then xlz (xfN office (xa0 ships) t delay list) else []) ∧ xeb ow t delay office ships list = if xmA ow t delay office (xa0 ships) list = true then 0 else 1 := by
 have hv := xey ow office ho
 have hc := xiI list hl
 obtain ⟨o1, o2, o3⟩ := xuA (ow := ow) (t := t) (delay := delay) (office := office) (list := list) hs hd
 unfold xcR xec xkc xkd xeb xka xkb
 rw [xrR ho hl, xt2]
 cases h1 : xhj ow t delay office list with
 | false => exact ⟨⟨hv.1, fun _ => hc.1, fun h => by cases h⟩, rfl, rfl⟩
 | true =>
  cases h2 : risF 0 (xa0 ships) with
  | false =>
   have e := o3 h2
   rw [e]
   exact ⟨⟨hv.1, fun _ => hc.1, fun _ => ⟨o1, fun h => by cases h⟩⟩, rfl, rfl⟩
  | true =>
   obtain ⟨e, er⟩ := o2 h2
   obtain ⟨p1, p2⟩ := xwp (ow := ow) (t := t) (delay := delay) (office := office) hl hs hd h2
   obtain ⟨g1, g2⟩ := xtS (t := t) ho h1 h2
   rw [e, xhJ, p2]
   rw [show (xau ow t delay office ships list).snd = (xau ow t delay office ships list).2 from rfl, er]
   cases h3 : list.any (xnG (xa0 ships)) with
   | true => exact ⟨⟨hv.1, fun _ => hc.1, fun _ => ⟨o1, fun _ => ⟨p1, fun h => by cases h⟩⟩⟩, rfl, rfl⟩
   | false =>
    have hch : chF list = true := by
     unfold xhj at h1
     simp only [Bool.and_eq_true] at h1
     exact h1.1.1.1.2
    obtain ⟨k1, k2, k3⟩ := xrA (office := office) (logs := xa0 ships) (tm := t) (dl := delay) hch
    have hl200 := (xs3 hch).1
    obtain ⟨q1, q2⟩ := xdL (step := xca ow t delay office ships list) (xfN office (xa0 ships) t delay list) (fun i (s : List (List Int)) => [.i i, .r s]) (fun s x => .inl (s ++ [[col x 0, col x 1]])) (fun i s => s.length ≤ i) (fun s => (1, [.i ((xfN office (xa0 ships) t delay list).length : Nat), .r s])) 0
     (fun i s hi _ hI => by
      refine ⟨?_, fun s' hs' => by cases hs'; simp; exact hI⟩
      unfold xca xha
      simp only [gi_z, gr_1, gr_z]
      rw [show (xau ow t delay office ships list).snd = (xau ow t delay office ships list).2 from rfl, er, g2, dlt hi, xaa (xaK hi), xaa (xaK hi), xbp hi, xeA (by omega), xaa (by unfold xbH maxLen; simp only [List.length_cons, List.length_nil]; omega)]
      rfl)
     (fun i s hi _ => by
      have : i = (xfN office (xa0 ships) t delay list).length := by omega
      subst this
      unfold xca
      simp only [gi_z, gr_1, gr_z]
      rw [show (xau ow t delay office ships list).snd = (xau ow t delay office ships list).2 from rfl, er, g2, dnlt]) (s := []) (Nat.zero_le _)
    refine ⟨⟨hv.1, fun _ => hc.1, fun _ => ⟨o1, fun _ => ⟨p1, fun _ => ⟨g1, q1⟩⟩⟩⟩, ?_, rfl⟩
    have el : xkf ow t delay office ships list = xaC (xca ow t delay office ships list) [.i ((0 : Nat) : Int), .r []] := rfl
    have ef : ∀ (l s : List (List Int)), l.foldl (fun s x => s ++ [[col x 0, col x 1]]) s = s ++ xlz l := by
     intro l
     induction l with
     | nil => intro s; simp [xlz]
     | cons x r ih => intro s; rw [List.foldl_cons, ih]; simp [xlz]
    rw [el, q2, List.drop_zero, xho, ef, List.nil_append]
    show gr [U.i ((xfN office (xa0 ships) t delay list).length : Nat), U.r (xlz (xfN office (xa0 ships) t delay list))] 1 = xlz (xfN office (xa0 ships) t delay list)
    rw [gr_1, gr_z]
theorem xtU (list : List (List Int)) : (fewF list).length ≤ (byF 0 list).length := by
 have : ∀ n, (upto (xgz list) n (byF 0 list)).length ≤ (byF 0 list).length := by
  intro n
  induction n with
  | zero => exact Nat.le_refl _
  | succ n ih =>
   have e : upto (xgz list) (n + 1) (byF 0 list) = xgz list n (upto (xgz list) n (byF 0 list)) := rfl
   rw [e]
   generalize upto (xgz list) n (byF 0 list) = b at *
   unfold xgz
   split
   ·split
    ·rename_i hb
     unfold xpD at hb
     simp only [Bool.or_eq_true, Bool.and_eq_true, decide_eq_true_eq, beq_iff_eq] at hb
     rcases hb with hb | hb
     ·omega
     ·have := hb.1; omega
    ·exact ih
   ·exact ih
 exact this _
theorem xvU {ow t delay : Int} {office ships list : List (List Int)} (ho : office.length ≤ 9223372036854775807) (hs : ships.length ≤ 9223372036854775807) (hl : list.length ≤ 9223372036854775807) (hd : xvT ships) (h90 : list.length ≤ 90 ∨ 200 < list.length) :
  xbT ow t delay office ships list ∧ xdc ow t delay office ships list = (if xmA ow t delay office (xa0 ships) list = true then fewF (xfN office (xa0 ships) t delay list) else []) ∧
  xdb ow t delay office ships list = (if xmA ow t delay office (xa0 ships) list = true then prF 100 ((fewF (xfN office (xa0 ships) t delay list)).length : Nat) (xfN office (xa0 ships) t delay list) else []) ∧
  xda ow t delay office ships list = if xmA ow t delay office (xa0 ships) list = true then 0 else 1 := by
 have hv := xey ow office ho
 have hc := xiI list hl
 obtain ⟨o1, o2, o3⟩ := xuA (ow := ow) (t := t) (delay := delay) (office := office) (list := list) hs hd
 have es0 : xd0 ow t delay office ships list = xbl ow t delay office ships list := rfl
 have ei0 : xd1 ow t delay office ships list = xcb ow t delay office ships list := rfl
 have el0 : xaO ow t delay office ships list = xau ow t delay office ships list := rfl
 have es1 : xdY ow t delay office ships list = xbk ow t delay office ships list := rfl
 have ei1 : xdZ ow t delay office ships list = xcY ow t delay office ships list := rfl
 have el1 : xbu ow t delay office ships list = xbM ow t delay office ships list := rfl
 unfold xbT xdc xhy xhz xdb xhw xhx xda xhu xhv
 rw [es0, ei0, el0, es1, ei1, el1, xrR ho hl, xt2]
 cases h1 : xhj ow t delay office list with
 | false => exact ⟨⟨hv.1, fun _ => hc.1, fun h => by cases h⟩, rfl, rfl, rfl⟩
 | true =>
  cases h2 : risF 0 (xa0 ships) with
  | false =>
   have e := o3 h2
   rw [e]
   exact ⟨⟨hv.1, fun _ => hc.1, fun _ => ⟨o1, fun h => by cases h⟩⟩, rfl, rfl, rfl⟩
  | true =>
   obtain ⟨e, er⟩ := o2 h2
   obtain ⟨p1, p2⟩ := xwp (ow := ow) (t := t) (delay := delay) (office := office) hl hs hd h2
   obtain ⟨g1, g2⟩ := xtS (t := t) ho h1 h2
   rw [e, xhJ, p2]
   rw [show (xau ow t delay office ships list).snd = (xau ow t delay office ships list).2 from rfl, er]
   cases h3 : list.any (xnG (xa0 ships)) with
   | true => exact ⟨⟨hv.1, fun _ => hc.1, fun _ => ⟨o1, fun _ => ⟨p1, fun h => by cases h⟩⟩⟩, rfl, rfl, rfl⟩
   | false =>
    have hch : chF list = true := by
     unfold xhj at h1
     simp only [Bool.and_eq_true] at h1
     exact h1.1.1.1.2
    obtain ⟨k1, k2, k3⟩ := xrA (office := office) (logs := xa0 ships) (tm := t) (dl := delay) hch
    have hl200 := (xs3 hch).1
    have hl90 : list.length ≤ 90 := by omega
    obtain ⟨f1, f2⟩ := xsN k1 (by omega)
    have hfl : (fewF (xfN office (xa0 ships) t delay list)).length < 100 := by
     have h0 := xtU (xfN office (xa0 ships) t delay list)
     have := xmD 0 (xfN office (xa0 ships) t delay list)
     omega
    obtain ⟨x1, x2⟩ := xyn 100 (fewF (xfN office (xa0 ships) t delay list)).length _ hfl (by omega) k1 k2 (by omega)
    rw [g2, f2]
    exact ⟨⟨hv.1, fun _ => hc.1, fun _ => ⟨o1, fun _ => ⟨p1, fun _ => ⟨g1, f1, x1⟩⟩⟩⟩, rfl, x2, rfl⟩
end Go.Proofs.YtikhnofbbcmpeaaGreat
set_option linter.unusedVariables false
set_option maxRecDepth 100000
namespace Go.Proofs.YtikhnofbbcmpeaaGreat
open Go Go.Sy
def xjM (cf : List Int → List Int → Int) : List (List Int) → Bool
 | x :: y :: r => decide (cf x y < 0) && xjM cf (y :: r)
 | _ => true
theorem xoQ (cf : List Int → List Int → Int) : ∀ l : List (List Int), xjM cf l = true ↔ ∀ i (h : i + 1 < l.length), cf l[i] l[i + 1] < 0
 | [] => ⟨fun _ i h => by simp at h, fun _ => rfl⟩
 | [x] => ⟨fun _ i h => by simp at h, fun _ => rfl⟩
 | x :: y :: r => by
  show (decide (cf x y < 0) && xjM cf (y :: r)) = true ↔ _
  rw [Bool.and_eq_true, decide_eq_true_eq, xoQ cf (y :: r)]
  constructor
  ·rintro ⟨h1, h2⟩ i hi
   cases i with
   | zero => exact h1
   | succ i => exact h2 i (by simpa using hi)
  ·intro h
   exact ⟨h 0 (by simp), fun i hi => h (i + 1) (by simpa using hi)⟩
theorem xr7 {step : List U → Option (Nat × List U)} {l : List (List Int)} {cf : List Int → List Int → Int} (m : Nat) (hs : ∀ i (hi : i + 1 < l.length), step [.b false, .i ((i + 1 : Nat) : Int)] = bif decide (cf l[i] l[i + 1] ≥ 0) then some (1, []) else some (0, [.b false, .i ((i + 1 + 1 : Nat) : Int)]))
  (he : ∀ n : Nat, ¬ ((n : Int) < (l.length : Int)) → step [.b false, .i n] = some (m + 2, [.b false, .i n])) {init : List U} (hi : init = [.b false, .i ((0 + 1 : Nat) : Int)]) :
  xaM step init ∧ (bif (xaC step init).fst.beq 1 then false else true) = xjM cf l := by
 subst hi
 obtain ⟨h1, h2⟩ := xg5 (step := step) (l.length - 1) (fun i => decide (cf (l.getD i []) (l.getD (i + 1) []) ≥ 0)) (fun i => [.b false, .i ((i + 1 : Nat) : Int)]) (fun i => []) 0 (m + 1) [.b false, .i ((l.length - 1 + 1 : Nat) : Int)]
  (fun i hi => by rw [hs i (by omega), xbq (by omega), xbq (by omega)]) (he _ (by omega))
 refine ⟨h1, ?_⟩
 rcases h2 with ⟨i, hi, hp, _, hg⟩ | ⟨hn, hg⟩
 ·rw [hg]
  rw [xbq (by omega), xbq (by omega)] at hp
  have : xjM cf l = false := by
   cases hr : xjM cf l with
   | false => rfl
   | true =>
    have := (xoQ cf l).1 hr i (by omega)
    have := of_decide_eq_true hp
    omega
  rw [this]; rfl
 ·rw [hg]
  have : xjM cf l = true := (xoQ cf l).2 fun i hi => by
   have := hn i (by omega)
   rw [xbq (by omega), xbq hi] at this
   have := of_decide_eq_false this
   omega
  rw [this]; rfl
def canF (g o : List Int) : Bool :=
 bif col o 0 == 1 && (col o 1 == 0 && (col o 2 == col g 1 && true)) then col g 2 != 0 else bif col o 0 == 2 && (col o 1 == col g 0 && (col o 2 == 0 && true)) then col g 3 != 0 else col o 0 == 3 && (col o 1 == col g 0 && (col o 2 == col g 1 && true))
def keyB (g p : List Int) : Bool := col g 0 == col p 0 && (col g 1 == col p 1 && true)
def verL (om pr : List (List Int)) : List (List Int) → List (List Int) → Option (List (List Int))
 | named, [] => some named
 | named, g :: r => if (om.any (canF g)) = true then (if pr.any (keyB g) = true then (if named.any (fun h => !apF g h) = true then none else verL om pr (named ++ [g]) r) else verL om pr named r) else none
noncomputable def verF (gs om pr : List (List Int)) : Bool := om.length == pr.length && xjM cfO om && xjM cfG pr && (match verL om pr [] gs with | some named => named.length == pr.length | none => false)
section
variable {ow t delay : Int} {office ships list om pr : List (List Int)}
theorem xxB : xeu ow t delay office ships list om pr = xbl ow t delay office ships list ∧ xev ow t delay office ships list om pr = xcb ow t delay office ships list ∧ xat ow t delay office ships list om pr = xau ow t delay office ships list ∧
  xes ow t delay office ships list om pr = xbk ow t delay office ships list ∧ xet ow t delay office ships list om pr = xcY ow t delay office ships list ∧ xcr ow t delay office ships list om pr = xbM ow t delay office ships list := ⟨rfl, rfl, rfl, rfl, rfl, rfl⟩
theorem xyS (hom : om.length ≤ 9223372036854775807) : xaM (xcp ow t delay office ships list om pr) (xer ow t delay office ships list om pr) ∧ (bif (xdP ow t delay office ships list om pr).fst.beq 1 then false else true) = xjM cfO om :=
 xr7 (cf := cfO) 1 (fun i hi => by
   unfold xcp xiu
   have hw : IntKind.i64.wrap (((i + 1 : Nat) : Int) - 1) = ((i : Nat) : Int) := by rw [xc2 (by omega)]; omega
   simp only [gi_1, gi_z, gb_z, hw]
   rw [decide_eq_true (by omega), cond_true, xaa (xaK (by omega)), xaa (xaK (by omega)), xaa (xaK hi), xaa (xaK hi), xaa (xiH _ _ _ _ _ _).1, xbp hi, xbp (show i < om.length by omega), xeA (by omega)]
   rfl)
  (fun n hn => by
   unfold xcp
   simp only [gi_1, gi_z, gb_z]
   rw [decide_eq_false hn]; rfl) rfl
theorem xyR (hpr : pr.length ≤ 9223372036854775807) : xaM (xco ow t delay office ships list om pr) (xeq ow t delay office ships list om pr) ∧ (bif (xeU ow t delay office ships list om pr).fst.beq 1 then false else true) = xjM cfG pr :=
 xr7 (cf := cfG) 1 (fun i hi => by
   unfold xco xit
   have hw : IntKind.i64.wrap (((i + 1 : Nat) : Int) - 1) = ((i : Nat) : Int) := by rw [xc2 (by omega)]; omega
   simp only [gi_1, gi_z, gb_z, hw]
   rw [decide_eq_true (by omega), cond_true, xaa (xaK (by omega)), xaa (xaK (by omega)), xaa (xaK hi), xaa (xaK hi), xaa (xot _ _ _ _).1, xbp hi, xbp (show i < pr.length by omega), xeA (by omega)]
   rfl)
  (fun n hn => by
   unfold xco
   simp only [gi_1, gi_z, gb_z]
   rw [decide_eq_false hn]; rfl) rfl
theorem xyQ {gs : List (List Int)} (hg : xar ow t delay office (gr (xat ow t delay office ships list om pr).snd 3) list = gs) (hok : xtd gs) (hgs : gs.length ≤ 1000000) (hom : om.length ≤ 9223372036854775807) (hpr : pr.length ≤ 9223372036854775807) :
  xaM (xbo ow t delay office ships list om pr) (xep ow t delay office ships list om pr) ∧
  (bif (xbe ow t delay office ships list om pr).fst.beq 1 then false else bif (xbe ow t delay office ships list om pr).fst.beq 2 then false else (↑(gr (xbe ow t delay office ships list om pr).snd 3).length : Int) == (↑pr.length : Int)) = (match verL om pr [] gs with | some named => named.length == pr.length | none => false) := by
 have inner : ∀ (i : Nat) (hi : i < gs.length) (named : List (List Int)), named.length ≤ 9223372036854775807 →
   (xaM (xcn ow t delay office ships list om pr [.b false, .i 0, .i i, .r named]) (xeo ow t delay office ships list om pr [.b false, .i 0, .i i, .r named]) ∧ decide ((bif (xeT ow t delay office ships list om pr [.b false, .i 0, .i i, .r named]).fst.beq 1 then gi (xeT ow t delay office ships list om pr [.b false, .i 0, .i i, .r named]).snd 0 else (-1 : Int)) ≥ 0) = om.any (canF gs[i])) ∧
   (xaM (xcm ow t delay office ships list om pr [.b false, .i 0, .i i, .r named]) (xen ow t delay office ships list om pr [.b false, .i 0, .i i, .r named]) ∧ decide ((bif (xeS ow t delay office ships list om pr [.b false, .i 0, .i i, .r named]).fst.beq 1 then gi (xeS ow t delay office ships list om pr [.b false, .i 0, .i i, .r named]).snd 0 else (-1 : Int)) ≥ 0) = pr.any (keyB gs[i])) ∧
   (xaM (xcl ow t delay office ships list om pr [.b false, .i 0, .i i, .r named]) (xem ow t delay office ships list om pr [.b false, .i 0, .i i, .r named]) ∧ decide ((bif (xeR ow t delay office ships list om pr [.b false, .i 0, .i i, .r named]).fst.beq 1 then gi (xeR ow t delay office ships list om pr [.b false, .i 0, .i i, .r named]).snd 0 else (-1 : Int)) ≥ 0) = named.any fun h => !apF gs[i] h) := by
  intro i hi named hnm
  refine ⟨xiU (l := om) (p := canF gs[i]) 1 (fun j hj => ?_) ?_ rfl, xiU (l := pr) (p := keyB gs[i]) 1 (fun j hj => ?_) ?_ rfl, xiU (l := named) (p := fun h => !apF gs[i] h) 1 (fun j hj => ?_) ?_ rfl⟩
  ·unfold xcn
   simp only [gi_2, gi_1, gi_z]
   rw [hg, dlt hj, xaa (xaK hj), xaa (xaK hj), xbp hj, xbp hi, xeA (by omega)]
   rfl
  ·unfold xcn
   simp only [gi_1, gi_z, dnlt]
  ·unfold xcm
   simp only [gi_2, gi_1, gi_z]
   rw [hg, dlt hj, xaa (xaK hj), xaa (xaK hj), xbp hj, xbp hi, xeA (by omega)]
   rfl
  ·unfold xcm
   simp only [gi_1, gi_z, dnlt]
  ·unfold xcl
   simp only [gi_2, gi_1, gi_z, gr_3, gr_z]
   rw [hg, dlt hj, xaa (xaK hj), xaa (xaK hj), xbp hj, xbp hi, xeA (by omega)]
   rfl
  ·unfold xcl
   simp only [gi_1, gi_z, gr_3, gr_z, dnlt]
 let f : List (List Int) → List Int → List (List Int) ⊕ (Nat × List U) := fun named g => if (om.any (canF g)) = true then (if pr.any (keyB g) = true then (if named.any (fun h => !apF g h) = true then .inr (1, []) else .inl (named ++ [g])) else .inl named) else .inr (0, [])
 obtain ⟨h1, h2⟩ := xdL (step := xbo ow t delay office ships list om pr) gs (fun i (s : List (List Int)) => [.b false, .i 0, .i i, .r s]) f (fun i s => s.length ≤ i) (fun s => (4, [.b false, .i 0, .i gs.length, .r s])) 0
  (fun i s hi _ hI => by
   obtain ⟨⟨a1, a2⟩, ⟨b1, b2⟩, ⟨c1, c2⟩⟩ := inner i hi s (by omega)
   refine ⟨?_, fun s' hs' => ?_⟩
   ·have hn : [gs[i].getD 0 0, gs[i].getD 1 0, bif gs[i].getD 2 0 != 0 then 1 else 0, bif gs[i].getD 3 0 != 0 then 1 else 0] = gs[i] := hok _ (List.getElem_mem hi)
    have hn4 : xeQ ow t delay office ships list om pr [.b false, .i 0, .i i, .r s] = gs[i] := by
     unfold xeQ xis
     simp only [gi_2, gi_1, gi_z]
     rw [hg, xbp hi]
     exact hn
    unfold xbo
    simp only [gi_2, gi_1, gi_z, gb_z, gr_3, gr_z]
    rw [a2, b2, c2, hn4, hg, dlt hi, xaa (xaK hi), xaa (xaK hi), xaa a1, xaa b1, xaa c1, xeA (by omega), xaa (by unfold xbH maxLen; simp only [List.length_cons, List.length_nil]; omega)]
    show _ = goOn _ (if (om.any (canF gs[i])) = true then (if pr.any (keyB gs[i]) = true then (if s.any (fun h => !apF gs[i] h) = true then .inr (1, []) else .inl (s ++ [gs[i]])) else .inl s) else .inr (0, []))
    cases om.any (canF gs[i])
    ·rw [if_neg (by decide)]; rfl
    ·rw [if_pos rfl]
     cases pr.any (keyB gs[i])
     ·rw [if_neg (by decide)]; rfl
     ·rw [if_pos rfl]
      cases s.any fun h => !apF gs[i] h
      ·rw [if_neg (by decide)]; rfl
      ·rw [if_pos rfl]; rfl
   ·have hs' : (if (om.any (canF gs[i])) = true then (if pr.any (keyB gs[i]) = true then (if s.any (fun h => !apF gs[i] h) = true then .inr (1, []) else .inl (s ++ [gs[i]])) else .inl s) else .inr (0, []) : List (List Int) ⊕ (Nat × List U)) = .inl s' := hs'
    split at hs'
    ·split at hs'
     ·split at hs'
      ·cases hs'
      ·cases hs'; simp; omega
     ·cases hs'; omega
    ·cases hs')
  (fun i s hi _ => by
   have : i = gs.length := by omega
   subst this
   unfold xbo
   simp only [gi_2, gi_1, gi_z, gb_z, gr_3, gr_z]
   rw [hg, dnlt]) (s := []) (Nat.zero_le _)
 refine ⟨h1, ?_⟩
 have el : xbe ow t delay office ships list om pr = xaC (xbo ow t delay office ships list om pr) [.b false, .i 0, .i ((0 : Nat) : Int), .r []] := rfl
 rw [el, h2, List.drop_zero]
 have run : ∀ (r : List (List Int)) (named : List (List Int)), (bif (endL (fun s : List (List Int) => (4, [.b false, .i 0, .i gs.length, .r s])) (runL f named r)).1.beq 1 then false else bif (endL (fun s : List (List Int) => (4, [.b false, .i 0, .i gs.length, .r s])) (runL f named r)).1.beq 2 then false else (↑(gr (endL (fun s : List (List Int) => (4, [.b false, .i 0, .i gs.length, .r s])) (runL f named r)).2 3).length : Int) == (↑pr.length : Int)) = (match verL om pr named r with | some named => named.length == pr.length | none => false) := by
  intro r
  induction r with
  | nil =>
   intro named
   show ((↑(gr [.b false, .i 0, .i gs.length, .r named] 3).length : Int) == (↑pr.length : Int)) = (named.length == pr.length)
   rw [gr_3, gr_z]
   by_cases h : named.length = pr.length
   ·rw [h]; simp
   ·have h1 : ¬ (named.length : Int) = (pr.length : Int) := by omega
    rw [bne h1]
    simpa using h
  | cons g r ih =>
   intro named
   have ef : f named g = if (om.any (canF g)) = true then (if pr.any (keyB g) = true then (if named.any (fun h => !apF g h) = true then .inr (1, []) else .inl (named ++ [g])) else .inl named) else .inr (0, []) := rfl
   unfold runL verL
   by_cases h1 : om.any (canF g) = true
   ·rw [if_pos h1] at ef
    rw [if_pos h1]
    by_cases h2 : pr.any (keyB g) = true
    ·rw [if_pos h2] at ef
     rw [if_pos h2]
     by_cases h3 : named.any (fun h => !apF g h) = true
     ·rw [if_pos h3] at ef
      rw [if_pos h3, ef]; rfl
     ·rw [if_neg h3] at ef
      rw [if_neg h3, ef]
      exact ih _
    ·rw [if_neg h2] at ef
     rw [if_neg h2, ef]
     exact ih _
   ·rw [if_neg h1] at ef
    rw [if_neg h1, ef]; rfl
 exact run gs []
theorem xxy (ho : office.length ≤ 9223372036854775807) (hs : ships.length ≤ 9223372036854775807) (hl : list.length ≤ 9223372036854775807) (hd : xvT ships) (hom : om.length ≤ 9223372036854775807) (hpr : pr.length ≤ 9223372036854775807) :
  xb9 ow t delay office ships list om pr ∧ xcQ ow t delay office ships list om pr = (xmA ow t delay office (xa0 ships) list && verF (xfN office (xa0 ships) t delay list) om pr) ∧ xdq ow t delay office ships list om pr = if xmA ow t delay office (xa0 ships) list = true then 0 else 1 := by
 have hv := xey ow office ho
 have hc := xiI list hl
 obtain ⟨o1, o2, o3⟩ := xuA (ow := ow) (t := t) (delay := delay) (office := office) (list := list) hs hd
 obtain ⟨es0, ei0, el0, es1, ei1, el1⟩ := xxB (ow := ow) (t := t) (delay := delay) (office := office) (ships := ships) (list := list) (om := om) (pr := pr)
 obtain ⟨r1, r2⟩ := xyS (ow := ow) (t := t) (delay := delay) (office := office) (ships := ships) (list := list) (pr := pr) hom
 obtain ⟨s1, s2⟩ := xyR (ow := ow) (t := t) (delay := delay) (office := office) (ships := ships) (list := list) (om := om) hpr
 have elen : ((om.length : Int) != (pr.length : Int)) = !(om.length == pr.length) := by
  by_cases h : om.length = pr.length
  ·rw [h]; simp
  ·have h1 : ¬ (om.length : Int) = (pr.length : Int) := by omega
   show (!((om.length : Int) == (pr.length : Int))) = _
   rw [bne h1]
   simpa using h
 unfold xb9 xcQ xdq xip xiq xir
 rw [r2, s2, elen]
 rw [es0, ei0, el0, es1, ei1, el1, xrR ho hl, xt2]
 cases h1 : xhj ow t delay office list with
 | false => exact ⟨⟨hv.1, fun _ => hc.1, fun h => by cases h⟩, rfl, rfl⟩
 | true =>
  cases h2 : risF 0 (xa0 ships) with
  | false =>
   have e := o3 h2
   rw [e]
   exact ⟨⟨hv.1, fun _ => hc.1, fun _ => ⟨o1, fun h => by cases h⟩⟩, rfl, rfl⟩
  | true =>
   obtain ⟨e, er⟩ := o2 h2
   obtain ⟨p1, p2⟩ := xwp (ow := ow) (t := t) (delay := delay) (office := office) hl hs hd h2
   obtain ⟨g1, g2⟩ := xtS (t := t) ho h1 h2
   rw [e, xhJ, p2]
   have er' : gr (xau ow t delay office ships list).snd 3 = ships.map rowO := er
   cases h3 : list.any (xnG (xa0 ships)) with
   | true => exact ⟨⟨hv.1, fun _ => hc.1, fun _ => ⟨o1, fun _ => ⟨p1, fun h => by cases h⟩⟩⟩, rfl, rfl⟩
   | false =>
    have hch : chF list = true := by
     unfold xhj at h1
     simp only [Bool.and_eq_true] at h1
     exact h1.1.1.1.2
    obtain ⟨k1, k2, k3⟩ := xrA (office := office) (logs := xa0 ships) (tm := t) (dl := delay) hch
    have hl200 := (xs3 hch).1
    obtain ⟨v1, v2⟩ := xyQ (ow := ow) (t := t) (delay := delay) (office := office) (ships := ships) (list := list) (om := om) (pr := pr) (gs := xfN office (xa0 ships) t delay list) (by rw [el0, er', g2]) k2 (by omega) hom hpr
    rw [er']
    refine ⟨⟨hv.1, fun _ => hc.1, fun _ => ⟨o1, fun _ => ⟨p1, fun _ => ⟨fun _ => r1, fun _ => s1, fun _ => ⟨g1, v1⟩⟩⟩⟩⟩, ?_, ?_⟩
    ·unfold verF
     rw [← v2]
     cases (om.length == pr.length) <;> cases xjM cfO om <;> cases xjM cfG pr <;> rfl
    ·cases (om.length == pr.length) <;> cases xjM cfO om <;> cases xjM cfG pr <;> cases (xbe ow t delay office ships list om pr).fst.beq 1 <;> cases (xbe ow t delay office ships list om pr).fst.beq 2 <;> rfl
end
end Go.Proofs.YtikhnofbbcmpeaaGreat
set_option linter.unusedVariables false
set_option maxRecDepth 100000
namespace Go.Proofs.YtikhnofbbcmpeaaGreat
open Go Go.Sy
def xkM (eq : List Int → List Int → Bool) : List (List Int) → List (List Int) → Bool
 | [], [] => true
 | x :: r, y :: r' => eq x y && xkM eq r r'
 | _, _ => false
theorem xlS {eq : List Int → List Int → Bool} : ∀ {a b : List (List Int)}, a.length ≠ b.length → xkM eq a b = false
 | [], [], h => absurd rfl h
 | [], _ :: _, _ => rfl
 | _ :: _, [], _ => rfl
 | x :: r, y :: r', h => by
  unfold xkM
  rw [xlS (by simpa using h), Bool.and_false]
theorem xoN {eq : List Int → List Int → Bool} : ∀ {a b : List (List Int)}, a.length = b.length → (xkM eq a b = true ↔ ∀ i (h : i < a.length) (h' : i < b.length), eq a[i] b[i] = true)
 | [], [], _ => ⟨(fun _ i h => by cases h), fun _ => rfl⟩
 | x :: r, y :: r', h => by
  show (eq x y && xkM eq r r') = true ↔ _
  rw [Bool.and_eq_true, xoN (by simpa using h)]
  constructor
  ·rintro ⟨h1, h2⟩ i hi hi'
   cases i with
   | zero => exact h1
   | succ i => exact h2 i (by simpa using hi) (by simpa using hi')
  ·intro h
   exact ⟨h 0 (by simp) (by simp), fun i hi hi' => h (i + 1) (by simpa using hi) (by simpa using hi')⟩
theorem xoM {step : List U → Option (Nat × List U)} {a b : List (List Int)} {eq : List Int → List Int → Bool} (m : Nat) (hlen : a.length = b.length)
  (hs : ∀ i (h : i < a.length) (h' : i < b.length), step [.b false, .i i] = bif eq a[i] b[i] then some (0, [.b false, .i ((i + 1 : Nat) : Int)]) else some (1, []))
  (he : step [.b false, .i a.length] = some (m + 2, [.b false, .i a.length])) {init : List U} (hi : init = [.b false, .i ((0 : Nat) : Int)]) :
  xaM step init ∧ (bif (xaC step init).fst.beq 1 then false else true) = xkM eq a b := by
 subst hi
 obtain ⟨h1, h2⟩ := xg5 (step := step) a.length (fun i => !eq (a.getD i []) (b.getD i [])) (fun i => [.b false, .i i]) (fun i => []) 0 (m + 1) [.b false, .i a.length]
  (fun i hi => by
   rw [hs i hi (by omega), xbq hi, xbq (by omega)]
   cases eq a[i] b[i] <;> rfl) he
 refine ⟨h1, ?_⟩
 rcases h2 with ⟨i, hi, hp, _, hg⟩ | ⟨hn, hg⟩
 ·rw [hg]
  have : xkM eq a b = false := by
   cases hr : xkM eq a b with
   | false => rfl
   | true =>
    have h := (xoN hlen).1 hr i hi (by omega)
    rw [xbq hi, xbq (by omega), h] at hp
    cases hp
  rw [this]; rfl
 ·rw [hg]
  have : xkM eq a b = true := (xoN hlen).2 fun i h h' => by
   have := hn i h
   rw [xbq h, xbq h'] at this
   simpa using this
  rw [this]; rfl
theorem lenI {a b : List (List Int)} : ((a.length : Int) != (b.length : Int)) = !decide (a.length = b.length) := by
 by_cases h : a.length = b.length
 ·rw [h]; simp
 ·have h1 : ¬ (a.length : Int) = (b.length : Int) := by omega
  show (!((a.length : Int) == (b.length : Int))) = _
  rw [bne h1, decide_eq_false h]
def eq1 (x y : List Int) : Bool := col x 0 == col y 0
def eq2 (x y : List Int) : Bool := col x 0 == col y 0 && (col x 1 == col y 1 && true)
def eq3 (x y : List Int) : Bool := col x 0 == col y 0 && (col x 1 == col y 1 && (col x 2 == col y 2 && true))
theorem xui (a b : List (List Int)) (ha : a.length ≤ 9223372036854775807) : xdA a b ∧ xdV a b = xkM eq1 a b := by
 unfold xdA xdV
 rw [lenI]
 by_cases hlen : a.length = b.length
 ·obtain ⟨h1, h2⟩ := xoM (step := xdr a b) (a := a) (b := b) (eq := eq1) 1 hlen (fun i h h' => by
    unfold xdr
    simp only [gi_1, gi_z, gb_z]
    rw [dlt h, xaa (xaK h), xaa (xaK h), xaa (xaK h'), xaa (xaK h'), xbp h, xbp h', xeA (by omega)]
    show (bif !(eq1 a[i] b[i]) then _ else _) = _
    cases eq1 a[i] b[i] <;> rfl)
   (by
    unfold xdr
    simp only [gi_1, gi_z, gb_z, dnlt]) (init := xfo a b) rfl
  rw [decide_eq_true hlen]
  exact ⟨fun _ => h1, h2⟩
 ·rw [decide_eq_false hlen, xlS hlen]
  exact ⟨(fun h => by cases h), rfl⟩
theorem xjd (a b : List (List Int)) (ha : a.length ≤ 9223372036854775807) : xb1 a b ∧ xbO a b = xkM eq2 a b := by
 unfold xb1 xbO
 rw [lenI]
 by_cases hlen : a.length = b.length
 ·obtain ⟨h1, h2⟩ := xoM (step := xci a b) (a := a) (b := b) (eq := eq2) 1 hlen (fun i h h' => by
    unfold xci
    simp only [gi_1, gi_z, gb_z]
    rw [dlt h, xaa (xaK h), xaa (xaK h), xaa (xaK h'), xaa (xaK h'), xbp h, xbp h', xeA (by omega)]
    show (bif !(eq2 a[i] b[i]) then _ else _) = _
    cases eq2 a[i] b[i] <;> rfl)
   (by
    unfold xci
    simp only [gi_1, gi_z, gb_z, dnlt]) (init := xef a b) rfl
  rw [decide_eq_true hlen]
  exact ⟨fun _ => h1, h2⟩
 ·rw [decide_eq_false hlen, xlS hlen]
  exact ⟨(fun h => by cases h), rfl⟩
theorem xtc (a b : List (List Int)) (ha : a.length ≤ 9223372036854775807) : xbC a b ∧ xbU a b = xkM eq3 a b := by
 unfold xbC xbU
 rw [lenI]
 by_cases hlen : a.length = b.length
 ·obtain ⟨h1, h2⟩ := xoM (step := xby a b) (a := a) (b := b) (eq := eq3) 1 hlen (fun i h h' => by
    unfold xby
    simp only [gi_1, gi_z, gb_z]
    rw [dlt h, xaa (xaK h), xaa (xaK h), xaa (xaK h'), xaa (xaK h'), xbp h, xbp h', xeA (by omega)]
    show (bif !(eq3 a[i] b[i]) then _ else _) = _
    cases eq3 a[i] b[i] <;> rfl)
   (by
    unfold xby
    simp only [gi_1, gi_z, gb_z, dnlt]) (init := xde a b) rfl
  rw [decide_eq_true hlen]
  exact ⟨fun _ => h1, h2⟩
 ·rw [decide_eq_false hlen, xlS hlen]
  exact ⟨(fun h => by cases h), rfl⟩
def addE (o t k n : Int) (l : List (List Int)) : Int :=
 if (valF o l && lnF t k n) = false then 1 else if ownF o k = false then 12 else if 200 ≤ l.length then 2 else if t < xtI 0 (-1) l then 13 else if (k == 4 && !onF 10000000 true l) = true then 6 else if (k == 5 && onF 10000000 true l) = true then 6 else 0
def addL (o t k n : Int) (l : List (List Int)) : List (List Int) := if addE o t k n l = 0 then l ++ [[t, k, n, sumF o (xtI 3 0 l) t k n]] else []
theorem xA1 (o t k n : Int) (l : List (List Int)) (hl : l.length ≤ 9223372036854775807) : xeL o t k n l ∧ xfD o t k n l = addL o t k n l ∧ xfC o t k n l = (if addE o t k n l = 0 then o else 0) ∧ xfB o t k n l = addE o t k n l := by
 obtain ⟨v1, v2⟩ := xey o l hl
 obtain ⟨o1, o2⟩ := xwr o 10000000 l hl
 obtain ⟨l1, l2, l3⟩ := xtH o l hl
 have hQ : decide ((l.length : Int) ≥ (200 : Int)) = false → (xbz o (xa1 o l) t k n (0 : Int)) ∧ ((((l = []) → ((True) ∧ (([] ++ l = []) ∧ (True)))) ∧ (xbH 32 (0 + l.length))) ∧ (xbH 32 (([] ++ l).length + [[t, k, n, xbQ o (xa1 o l) t k n (0 : Int)]].length))) := fun h => by
  have := of_decide_eq_false h
  refine ⟨(xqh _ _ _ _ _ _).1, ⟨fun h => ⟨trivial, by rw [h]; rfl, trivial⟩, by unfold xbH maxLen; omega⟩, ?_⟩
  unfold xbH maxLen
  simp only [List.nil_append, List.length_cons, List.length_nil]
  omega
 refine ⟨⟨l1, o1, v1, fun h1 h2 => ?_, fun _ _ _ h4 _ => ⟨fun a b => ?_, fun _ _ => hQ h4⟩⟩, ?_⟩
 ·rw [h1] at h2; cases h2
 ·rw [a] at b; cases b
 ·unfold xfD xhP xk1 xk2 xfC xkZ xk0 xhO xfB xkX xkY xhN addL addE
  rw [v2, o2, l2, l3, xtG, xwl, (xqh _ _ _ _ _ _).2]
  have e200 : decide ((l.length : Int) ≥ (200 : Int)) = decide (200 ≤ l.length) := decide_eq_decide.2 (by omega)
  rw [e200]
  cases hv : valF o l
  ·simp
  ·cases hln : lnF t k n
   ·simp
   ·cases hown : ownF o k
    ·simp
    ·by_cases h2 : 200 ≤ l.length
     ·simp [h2]
     ·by_cases h3 : t < xtI 0 (-1) l
      ·simp [h2, h3]
      ·cases h4 : (k == 4 && !onF 10000000 true l)
       ·cases h5 : (k == 5 && onF 10000000 true l)
        ·simp [h2, h3]
        ·simp [h2, h3]
       ·simp [h2, h3]
theorem xyb (o t k n : Int) (l : List (List Int)) : (addL o t k n l).length ≤ l.length + 1 := by
 unfold addL
 by_cases h : addE o t k n l = 0
 ·rw [if_pos h]; simp
 ·rw [if_neg h]; simp
def logF : Int × List (List Int) → List (List Int) → Int × List (List Int)
 | s, [] => s
 | s, x :: r => if addE s.1 (col x 0) (col x 1) (col x 2) s.2 = 0 then logF (s.1, addL s.1 (col x 0) (col x 1) (col x 2) s.2) r else (0, [])
theorem xuJ (o : Int) (lines : List (List Int)) (hl : lines.length ≤ 1000000) : xbP o lines ∧ (xad o lines, xae o lines) = logF (o, []) lines := by
 let f : Int × List (List Int) → List Int → (Int × List (List Int)) ⊕ (Nat × List U) := fun s x => if addE s.1 (col x 0) (col x 1) (col x 2) s.2 = 0 then .inl (s.1, addL s.1 (col x 0) (col x 1) (col x 2) s.2) else .inr (0, [.i s.1, .r s.2])
 obtain ⟨h1, h2⟩ := xdL (step := xc7 o lines) lines (fun i (s : Int × List (List Int)) => [.i i, .i s.1, .r s.2]) f (fun i s => s.2.length ≤ i) (fun s => (2, [.i lines.length, .i s.1, .r s.2])) 0
  (fun i s hi _ hI => by
   obtain ⟨a1, a2, a3, a4⟩ := xA1 s.1 (col lines[i] 0) (col lines[i] 1) (col lines[i] 2) s.2 (by omega)
   refine ⟨?_, fun s' hs' => ?_⟩
   ·unfold xc7 xnO xnN xnM
    simp only [gi_z, gi_1, gr_2, gr_1, gr_z, dlt hi, xaa (xaK hi), xbp hi, xeA (show i < 9223372036854775807 by omega)]
    rw [xaa a1, a2, a3, a4]
    show _ = goOn _ (if addE s.1 (col lines[i] 0) (col lines[i] 1) (col lines[i] 2) s.2 = 0 then .inl (s.1, addL s.1 (col lines[i] 0) (col lines[i] 1) (col lines[i] 2) s.2) else .inr (0, [.i s.1, .r s.2]))
    by_cases h : addE s.1 (col lines[i] 0) (col lines[i] 1) (col lines[i] 2) s.2 = 0
    ·rw [if_pos h, if_pos h, h]; rfl
    ·rw [if_neg h, if_neg h]
     have : (addE s.1 (col lines[i] 0) (col lines[i] 1) (col lines[i] 2) s.2 != 0) = true := by simpa using h
     rw [this]; rfl
   ·have hs' : (if addE s.1 (col lines[i] 0) (col lines[i] 1) (col lines[i] 2) s.2 = 0 then .inl (s.1, addL s.1 (col lines[i] 0) (col lines[i] 1) (col lines[i] 2) s.2) else .inr (0, [.i s.1, .r s.2]) : (Int × List (List Int)) ⊕ (Nat × List U)) = .inl s' := hs'
    split at hs'
    ·cases hs'
     exact Nat.le_trans (xyb _ _ _ _ _) (by omega)
    ·cases hs')
  (fun i s hi _ => by
   have : i = lines.length := by omega
   subst this
   unfold xc7
   simp only [gi_z, gi_1, gr_2, gr_1, gr_z, dnlt]) (s := (o, [])) (Nat.zero_le _)
 refine ⟨h1, ?_⟩
 have el : xgl o lines = xaC (xc7 o lines) [.i ((0 : Nat) : Int), .i o, .r []] := rfl
 unfold xad xae
 rw [el, h2, List.drop_zero]
 have run : ∀ (r : List (List Int)) (s : Int × List (List Int)), ((bif (endL (fun s : Int × List (List Int) => (2, [.i lines.length, .i s.1, .r s.2])) (runL f s r)).1.beq 1 then (0 : Int) else gi (endL (fun s : Int × List (List Int) => (2, [.i lines.length, .i s.1, .r s.2])) (runL f s r)).2 1), (bif (endL (fun s : Int × List (List Int) => (2, [.i lines.length, .i s.1, .r s.2])) (runL f s r)).1.beq 1 then [] else gr (endL (fun s : Int × List (List Int) => (2, [.i lines.length, .i s.1, .r s.2])) (runL f s r)).2 2)) = logF s r := by
  intro r
  induction r with
  | nil => intro s; rfl
  | cons x r ih =>
   intro s
   have ef : f s x = if addE s.1 (col x 0) (col x 1) (col x 2) s.2 = 0 then .inl (s.1, addL s.1 (col x 0) (col x 1) (col x 2) s.2) else .inr (0, [.i s.1, .r s.2]) := rfl
   unfold runL logF
   by_cases h : addE s.1 (col x 0) (col x 1) (col x 2) s.2 = 0
   ·rw [if_pos h] at ef
    rw [if_pos h, ef]
    exact ih _
   ·rw [if_neg h] at ef
    rw [if_neg h, ef]; rfl
 exact run lines (o, [])
end Go.Proofs.YtikhnofbbcmpeaaGreat
set_option linter.unusedVariables false
set_option maxRecDepth 100000
namespace Go.Proofs.YtikhnofbbcmpeaaGreat
open Go Go.Sy
def cmp3 (x y : List Int) : Int := if col x 0 < col y 0 then -1 else if col y 0 < col x 0 then 1 else if col x 1 < col y 1 then -1 else if col y 1 < col x 1 then 1 else if col x 2 < col y 2 then -1 else if col y 2 < col x 2 then 1 else 0
def cmp2 (x y : List Int) : Int := if col x 0 < col y 0 then -1 else if col y 0 < col x 0 then 1 else if col x 1 < col y 1 then -1 else if col y 1 < col x 1 then 1 else 0
theorem xo4 (a b : Int) (r : List Int) (e : Int) (h : orL r = e) : orL ((if a < b then -1 else if b < a then 1 else 0) :: r) = if a < b then -1 else if b < a then 1 else e := by
 unfold orL
 by_cases h1 : a < b
 ·rw [if_pos h1, if_neg (by decide), if_pos h1]
 ·rw [if_neg h1, if_neg h1]
  by_cases h2 : b < a
  ·rw [if_pos h2, if_neg (by decide), if_pos h2]
  ·rw [if_neg h2, if_pos rfl, if_neg h2, h]
theorem xyI : cfO = cmp3 := by
 funext x y
 unfold cfO cmp3
 rw [(xiH _ _ _ _ _ _).2]
 simp only [cmpC]
 exact xo4 _ _ _ _ (xo4 _ _ _ _ (xo4 _ _ _ _ rfl))
theorem xAf : cfG = cmp2 := by
 funext x y
 unfold cfG cmp2
 rw [(xot _ _ _ _).2]
 simp only [cmpC]
 exact xo4 _ _ _ _ (xo4 _ _ _ _ rfl)
def xx8 : List (List Int) → List (List Int) → Int
 | [], [] => 0
 | [], _ :: _ => -1
 | _ :: _, [] => 1
 | x :: r, y :: r' => if cmp3 x y = 0 then xx8 r r' else cmp3 x y
theorem xxr : ∀ x y, cmpL x y = xx8 x y
 | [], [] => rfl
 | [], _ :: _ => rfl
 | _ :: _, [] => rfl
 | x :: r, y :: r' => by
  unfold cmpL xx8
  rw [xyI, xxr r r']
def xuc (x b : List (List Int)) : Bool := decide (x.length < b.length) || (x.length == b.length && decide (xx8 x b < 0))
theorem xxv : xpD = xuc := by funext x b; unfold xpD xuc; rw [xxr]
def xrG (list : List (List Int)) (i : Nat) (b : List (List Int)) : List (List Int) := if subB i (allF list) = true then (if xuc (byF i list) b = true then byF i list else b) else b
def fewC (list : List (List Int)) : List (List Int) := upto (xrG list) (allF list + 1) (byF 0 list)
theorem xtV : fewF = fewC := by
 funext list
 unfold fewF fewC
 have : xgz list = xrG list := by funext i b; unfold xgz xrG; rw [xxv]
 rw [this]
def goC (k : Int → List (List Int) → List (List Int)) (n : Int) : List (List Int) → List (List Int)
 | [] => []
 | g :: r => if ((fewC (r.filter (apF g))).length : Int) = n - 1 then [col g 0, col g 1] :: k (n - 1) (r.filter (apF g)) else goC k n r
def prC : Nat → Int → List (List Int) → List (List Int)
 | 0, _, _ => []
 | m + 1, n, list => if n = 0 then [] else goC (prC m) n list
theorem xyE (k : Int → List (List Int) → List (List Int)) (n : Int) : ∀ l, goP k n l = goC k n l
 | [] => rfl
 | g :: r => by unfold goP goC; rw [xtV, xyE k n r]
theorem xys : ∀ m n l, prF m n l = prC m n l
 | 0, _, _ => rfl
 | m + 1, n, l => by
  unfold prF prC
  rw [xyE, show prF m = prC m from by funext n l; exact xys m n l]
def verC (gs om pr : List (List Int)) : Bool := om.length == pr.length && xjM cmp3 om && xjM cmp2 pr && (match verL om pr [] gs with | some named => named.length == pr.length | none => false)
theorem xyP (gs om pr : List (List Int)) : verF gs om pr = verC gs om pr := by unfold verF verC; rw [xyI, xAf] <;> rfl
def hA0 : List (List Int) := (logF (0, []) [[10, 1, 7]]).2
def hA1 : List (List Int) := (logF (1, []) [[12, 3, 7]]).2
def hA3 : List (List Int) := (logF (3, []) [[5, 4, 0], [20, 5, 0], [40, 2, 9]]).2
noncomputable def xfP : List (List Int) := [[1, encL hA1], [2, encL []], [3, encL hA3]]
def xvv : List ALog := [(1, hA1), (2, []), (3, hA3)]
def hch : List (List Int) := [[1, 7, 10], [2, 7, 10], [3, 7, 10], [2, 9, 30], [3, 9, 30]]
theorem xgx : xbP 0 [[10, 1, 7]] ∧ xad 0 [[10, 1, 7]] = 0 ∧ xae 0 [[10, 1, 7]] = hA0 := by
 obtain ⟨h1, h2⟩ := xuJ 0 [[10, 1, 7]] (by decide)
 exact ⟨h1, (congrArg Prod.fst h2).trans (by decide +kernel), congrArg Prod.snd h2⟩
theorem xzj : xbP 1 [[12, 3, 7]] ∧ xad 1 [[12, 3, 7]] = 1 ∧ xae 1 [[12, 3, 7]] = hA1 := by
 obtain ⟨h1, h2⟩ := xuJ 1 [[12, 3, 7]] (by decide)
 exact ⟨h1, (congrArg Prod.fst h2).trans (by decide +kernel), congrArg Prod.snd h2⟩
theorem xzi : xbP 2 [] ∧ xad 2 [] = 2 ∧ xae 2 [] = [] := by
 obtain ⟨h1, h2⟩ := xuJ 2 [] (by decide)
 exact ⟨h1, congrArg Prod.fst h2, congrArg Prod.snd h2⟩
theorem xzh : xbP 3 xah ∧ xad 3 xah = 3 ∧ xae 3 xah = hA3 := by
 obtain ⟨h1, h2⟩ := xuJ 3 [[5, 4, 0], [20, 5, 0], [40, 2, 9]] (by decide)
 exact ⟨h1, (congrArg Prod.fst h2).trans (by decide +kernel), congrArg Prod.snd h2⟩
theorem xp4 : [xaD, [xad (2 : Int) [], encL (xae (2 : Int) [])], [xad (3 : Int) xah, encL (xae (3 : Int) xah)]] = xfP := by
 unfold xaD
 rw [xzj.2.1, xzj.2.2, xzi.2.1, xzi.2.2, xzh.2.1, xzh.2.2]
 rfl
theorem xi1 : xa0 xfP = xvv := by
 show [((1 : Int), decL (encL hA1)), (2, decL (encL [])), (3, decL (encL hA3))] = _
 rw [xfd, xfd, xfd]
 rfl
theorem xtN : xvT xfP := by
 intro x hx
 have hx : x = [1, encL hA1] ∨ x = [2, encL []] ∨ x = [3, encL hA3] := by simpa [xfP] using hx
 have l1 : hA1.length ≤ 9223372036854775807 := by decide +kernel
 have l3 : hA3.length ≤ 9223372036854775807 := by decide +kernel
 rcases hx with rfl | rfl | rfl
 ·show (decL (encL hA1)).length ≤ _
  rw [xfd]; exact l1
 ·show (decL (encL [])).length ≤ _
  rw [xfd]; decide
 ·show (decL (encL hA3)).length ≤ _
  rw [xfd]; exact l3
theorem xtO : xmA 0 50 5 hA0 xvv hch = true := by decide +kernel
theorem hco1 : coOk 0 1 10 hA0 hA1 hch = true := by decide +kernel
theorem hco3 : coOk 0 3 10 hA0 hA3 hch = true := by decide +kernel
theorem hfew : fewC (xfN hA0 xvv 50 5 hch) = [[1, 0, 9], [2, 2, 0], [2, 3, 0]] := by decide +kernel
theorem hprv : prC 100 3 (xfN hA0 xvv 50 5 hch) = [[2, 7], [3, 7], [3, 9]] := by decide +kernel
theorem hgap : xlz (xfN hA0 xvv 50 5 hch) = [[2, 7], [2, 9], [3, 7], [3, 9]] := by decide +kernel
theorem hver : verC (xfN hA0 xvv 50 5 hch) [[1, 0, 9], [2, 2, 0], [2, 3, 0]] [[2, 7], [3, 7], [3, 9]] = true := by decide +kernel
theorem hcr1 : xri (xsW 1 10 hA0 hA1 hch) = [7] := by decide +kernel
theorem hcr3 : xri (xsW 3 10 hA0 hA3 hch) = [] := by decide +kernel
theorem hsh1 : (valF 1 hA1 && tmF 12) = true ∧ xr3 12 hA1 = [7] := by decide +kernel
theorem hva3 : valF 3 hA3 = true := by decide +kernel
theorem xwI : hA0.length ≤ 9223372036854775807 := by decide +kernel
theorem xzU : hA1.length ≤ 9223372036854775807 := by decide +kernel
theorem xzc : hA3.length ≤ 9223372036854775807 := by decide +kernel
theorem xzg : xfP.length ≤ 9223372036854775807 := by show 3 ≤ 9223372036854775807; decide
theorem xwS : hch.length ≤ 9223372036854775807 := by decide
theorem hE : xbT 0 50 5 hA0 xfP hch ∧ xdc 0 50 5 hA0 xfP hch = [[1, 0, 9], [2, 2, 0], [2, 3, 0]] ∧ xdb 0 50 5 hA0 xfP hch = [[2, 7], [3, 7], [3, 9]] ∧ xda 0 50 5 hA0 xfP hch = 0 := by
 obtain ⟨h1, h2, h3, h4⟩ := xvU (ow := 0) (t := 50) (delay := 5) xwI xzg xwS xtN (.inl (by decide))
 rw [xi1, xtO, if_pos rfl, xtV, hfew] at h2
 rw [xi1, xtO, if_pos rfl, xtV, hfew, xys] at h3
 rw [xi1, xtO, if_pos rfl] at h4
 exact ⟨h1, h2, h3.trans hprv, h4⟩
theorem hG : xcR 0 50 5 hA0 xfP hch ∧ xec 0 50 5 hA0 xfP hch = [[2, 7], [2, 9], [3, 7], [3, 9]] ∧ xeb 0 50 5 hA0 xfP hch = 0 := by
 obtain ⟨h1, h2, h3⟩ := xzB (ow := 0) (t := 50) (delay := 5) xwI xzg xwS xtN
 rw [xi1, xtO, if_pos rfl, hgap] at h2
 rw [xi1, xtO, if_pos rfl] at h3
 exact ⟨h1, h2, h3⟩
theorem hV : xb9 0 50 5 hA0 xfP hch [[1, 0, 9], [2, 2, 0], [2, 3, 0]] [[2, 7], [3, 7], [3, 9]] ∧ xcQ 0 50 5 hA0 xfP hch [[1, 0, 9], [2, 2, 0], [2, 3, 0]] [[2, 7], [3, 7], [3, 9]] = true ∧ xdq 0 50 5 hA0 xfP hch [[1, 0, 9], [2, 2, 0], [2, 3, 0]] [[2, 7], [3, 7], [3, 9]] = 0 := by
 obtain ⟨h1, h2, h3⟩ := xxy (ow := 0) (t := 50) (delay := 5) (office := hA0) (ships := xfP) (list := hch) (om := [[1, 0, 9], [2, 2, 0], [2, 3, 0]]) (pr := [[2, 7], [3, 7], [3, 9]]) xwI xzg xwS xtN (by decide) (by decide)
 rw [xi1, xtO, xyP, hver] at h2
 rw [xi1, xtO, if_pos rfl] at h3
 exact ⟨h1, h2, h3⟩
theorem hC1 : xbD 0 1 10 hA0 hA1 hch ∧ xcL 0 1 10 hA0 hA1 hch = [[7]] ∧ xcK 0 1 10 hA0 hA1 hch = 0 := by
 obtain ⟨h1, h2, h3⟩ := xu6 0 1 10 hA0 hA1 hch xwI xzU xwS
 rw [hco1, if_pos rfl, hcr1] at h2
 rw [hco1, if_pos rfl] at h3
 exact ⟨h1, h2, h3⟩
theorem hC3 : xbD 0 3 10 hA0 hA3 hch ∧ xcL 0 3 10 hA0 hA3 hch = [] ∧ xcK 0 3 10 hA0 hA3 hch = 0 := by
 obtain ⟨h1, h2, h3⟩ := xu6 0 3 10 hA0 hA3 hch xwI xzc xwS
 rw [hco3, if_pos rfl, hcr3] at h2
 rw [hco3, if_pos rfl] at h3
 exact ⟨h1, h2, h3⟩
theorem hS1 : xcs 1 12 hA1 ∧ xcI 1 12 hA1 = [[7]] ∧ xdf 1 12 hA1 = 0 := by
 obtain ⟨h1, h2, h3⟩ := xyf 1 12 hA1 xzU
 rw [hsh1.1, if_pos rfl, hsh1.2] at h2
 rw [hsh1.1, if_pos rfl] at h3
 exact ⟨h1, h2, h3⟩
theorem xyB : xaJ = [1, encL hA1] := by unfold xaJ; rw [xp4]; rfl
theorem xyA : xbs = [3, encL hA3] := by unfold xbs; rw [xp4]; rfl
theorem xjy : ([(1 : Int), (7 : Int), (10 : Int)] :: [(2 : Int), (7 : Int), (10 : Int)] :: xaX) = hch := rfl
theorem g20 : (xaJ).getD 0 (0 : Int) = 1 := by rw [xyB]; rfl
theorem g21 : decL ((xaJ).getD 1 (0 : Int)) = hA1 := by rw [xyB]; exact xfd _
theorem g40 : (xbs).getD 0 (0 : Int) = 3 := by rw [xyA]; rfl
theorem g41 : decL ((xbs).getD 1 (0 : Int)) = hA3 := by rw [xyA]; exact xfd _
theorem hd5 : xc0 = [[1, 0, 9], [2, 2, 0], [2, 3, 0]] := by
 unfold xc0
 rw [xgx.2.1, xgx.2.2, xp4, xjy, hE.2.1]
theorem hd6 : xcu = [[2, 7], [3, 7], [3, 9]] := by
 unfold xcu
 rw [xgx.2.1, xgx.2.2, xp4, xjy, hE.2.2.1]
theorem hd7 : xgJ = 0 := by
 unfold xgJ
 rw [xgx.2.1, xgx.2.2, g20, g21, xjy, hC1.2.2]
theorem hd8 : xgI = 0 := by
 unfold xgI
 rw [xgx.2.1, xgx.2.2, g40, g41, xjy, hC3.2.2]
theorem hd9 : xgH = 0 := by
 unfold xgH
 rw [xgx.2.1, xgx.2.2, xp4, xjy, hG.2.2]
theorem hd10 : xgb = 0 := by
 unfold xgb
 rw [xgx.2.1, xgx.2.2, xp4, xjy, hE.2.2.2]
theorem hd11 : xga = 0 := by
 unfold xga
 rw [xgx.2.1, xgx.2.2, xp4, xjy, hd5, hd6, hV.2.2]
theorem hd12 : xe3 = [[7]] := by
 unfold xe3
 rw [xgx.2.1, xgx.2.2, g20, g21, xjy, hC1.2.1]
theorem hd13 : xf9 = [] := by
 unfold xf9
 rw [xgx.2.1, xgx.2.2, g40, g41, xjy, hC3.2.1]
theorem hd14 : xe2 = [[2, 7], [2, 9], [3, 7], [3, 9]] := by
 unfold xe2
 rw [xgx.2.1, xgx.2.2, xp4, xjy, hG.2.1]
theorem xwR : xeF = true := by
 unfold xeF
 rw [xp4, xjy, xgx.2.1, xgx.2.2, hd5, hd6, hd7, hd8, hd9, hd10, hd11, hd12, hd13, hd14, g20, g21, g40, g41, hS1.2.1, hS1.2.2, hV.2.1, (xui _ _ (by decide)).2, (xjd _ _ (by decide)).2, (xtc _ _ (by decide)).2, (xjd _ _ (by decide)).2, (xey 3 hA3 xzc).2, hva3]
 rfl
theorem xuQ : xd9 := by
 unfold xd9
 rw [xp4, xjy, xgx.2.1, xgx.2.2, hd5, hd6, hd12, hd14, g20, g21, g40, g41, hS1.2.1]
 have r0 : inR (0 : Int) xfP := ⟨by decide, by show (0 : Int) < 3; decide⟩
 have r2 : inR (2 : Int) xfP := ⟨by decide, by show (2 : Int) < 3; decide⟩
 exact ⟨⟨xzj.1, xzi.1, xzh.1, xgx.1⟩, r0, r0, hC1.1, r2, r2, hC3.1, hG.1, hE.1, hV.1, r0, r0, hS1.1, fun _ => ⟨(xui _ _ (by decide)).1, fun _ => ⟨(xui _ _ (by decide)).1, fun _ => ⟨(xjd _ _ (by decide)).1, fun _ => ⟨(xtc _ _ (by decide)).1, fun _ => ⟨(xjd _ _ (by decide)).1, fun _ => r2, fun _ => ⟨r2, (xey 3 hA3 xzc).1⟩⟩⟩⟩⟩⟩⟩
end Go.Proofs.YtikhnofbbcmpeaaGreat
set_option linter.unusedVariables false
set_option maxRecDepth 100000
namespace Go.Proofs.YtikhnofbbcmpeaaGreat
open Go Go.Sy
theorem xul {o : Int} : ∀ {l : List (List Int)} {off : Bool} {last now : Int}, vldF o off last now l = true → (∀ x ∈ l, now ≤ col x 0 ∧ lnF (col x 0) (col x 1) (col x 2) = true ∧ ownF o (col x 1) = true) ∧ l.Pairwise (fun a b => col a 0 ≤ col b 0)
 | [], _, _, _, _ => ⟨(fun x hx => by cases hx), List.Pairwise.nil⟩
 | x :: r, off, last, now, h => by
  unfold vldF at h
  split at h
  ·cases h
  ·rename_i h1
   have h1' : (!lnF (col x 0) (col x 1) (col x 2) || !ownF o (col x 1) || decide (col x 0 < now) || col x 3 != sumF o last (col x 0) (col x 1) (col x 2)) = false := by simpa using h1
   rw [Bool.or_eq_false_iff, Bool.or_eq_false_iff, Bool.or_eq_false_iff] at h1'
   obtain ⟨⟨⟨a1, a2⟩, a3⟩, a4⟩ := h1'
   have a3 := of_decide_eq_false a3
   have hr : ∃ off', vldF o off' (col x 3) (col x 0) r = true := by
    split at h
    ·split at h
     ·cases h
     ·exact ⟨_, h⟩
    ·exact ⟨_, h⟩
   obtain ⟨off', hr⟩ := hr
   obtain ⟨b1, b2⟩ := xul hr
   refine ⟨fun y hy => ?_, List.pairwise_cons.2 ⟨fun y hy => (b1 y hy).1, b2⟩⟩
   rcases List.mem_cons.1 hy with rfl | hy
   ·exact ⟨by omega, by simpa using a1, by simpa using a2⟩
   ·have := b1 y hy
    exact ⟨by omega, this.2⟩
theorem xum {o : Int} {l : List (List Int)} (h : valF o l = true) : (∀ x ∈ l, 0 ≤ col x 0 ∧ lnF (col x 0) (col x 1) (col x 2) = true ∧ ownF o (col x 1) = true) ∧ l.Pairwise (fun a b => col a 0 ≤ col b 0) := by
 unfold valF at h
 rw [Bool.and_eq_true] at h
 exact xul h.2
end Go.Proofs.YtikhnofbbcmpeaaGreat
set_option linter.unusedVariables false
set_option maxRecDepth 100000
namespace Go.Proofs.YtikhnofbbcmpeaaGreat
open Go Go.Sy
def cD : BitVec 64 := 11507291218515648293#64
def shD (p : BitVec 64) : BitVec 64 := p ^^^ (p >>> 32)
def mixB (h x : BitVec 64) : BitVec 64 := shD ((h ^^^ x) * cD)
theorem xv2 (p : BitVec 64) : shD (shD p) = p := by
 unfold shD
 apply BitVec.eq_of_getLsbD_eq
 intro i hi
 simp only [BitVec.getLsbD_xor, BitVec.getLsbD_ushiftRight]
 have : p.getLsbD (32 + (32 + i)) = false := BitVec.getLsbD_of_ge _ _ (by omega)
 rw [this]
 cases p.getLsbD i <;> cases p.getLsbD (32 + i) <;> rfl
theorem xxU (p : BitVec 64) : p * cD * 192419422752744621#64 = p := by
 rw [BitVec.mul_assoc]
 have : cD * 192419422752744621#64 = 1#64 := by decide
 rw [this, BitVec.mul_one]
theorem xuF {h x h' x' : BitVec 64} (e : mixB h x = mixB h' x') : h ^^^ x = h' ^^^ x' := by
 unfold mixB at e
 have e1 := congrArg shD e
 rw [xv2, xv2] at e1
 have e2 := congrArg (fun p => p * 192419422752744621#64) e1
 simp only [xxU] at e2
 exact e2
theorem xuk {a b c : BitVec 64} (e : a ^^^ b = a ^^^ c) : b = c := by
 have := congrArg (fun p => a ^^^ p) e
 simpa [← BitVec.xor_assoc] using this
theorem xuE {h x x' : BitVec 64} (e : mixB h x = mixB h x') : x = x' := xuk (xuF e)
theorem xqw {h h' x : BitVec 64} (e : mixB h x = mixB h' x) : h = h' := by
 have := xuF e
 rw [BitVec.xor_comm h, BitVec.xor_comm h'] at this
 exact xuk this
theorem xqT (z : Int) : IntKind.u64.wrap z = ((BitVec.ofInt 64 z).toNat : Int) := by
 rw [BitVec.toNat_ofInt]
 simp only [IntKind.wrap, IntKind.bits, IntKind.signed]
 simp
 omega
theorem xfX (b : BitVec 64) : BitVec.ofInt 64 ((b.toNat : Nat) : Int) = b := by
 apply BitVec.eq_of_toNat_eq
 simp
theorem xwu (z : Int) : BitVec.ofInt 64 (IntKind.u64.wrap z) = BitVec.ofInt 64 z := by rw [xqT, xfX]
theorem xwv (z : Int) : BitVec.ofInt 64 (IntKind.i64.wrap z) = BitVec.ofInt 64 z := by
 apply BitVec.eq_of_toInt_eq
 rw [BitVec.toInt_ofInt, BitVec.toInt_ofInt]
 simp only [IntKind.wrap, IntKind.bits, IntKind.signed]
 simp only [Int.bmod]
 simp
 split <;> omega
theorem xvW (a b : Int) : bXor IntKind.u64 a b = ((BitVec.ofInt 64 a ^^^ BitVec.ofInt 64 b).toNat : Int) := by
 show IntKind.u64.wrap _ = _
 rw [xqT]
 congr 2
 exact xfX _
theorem xy9 (h x : Int) : mixD h x = ((mixB (BitVec.ofInt 64 h) (BitVec.ofInt 64 x)).toNat : Int) := by
 have e1 : IntKind.u64.wrap (bXor IntKind.u64 h (IntKind.u64.wrap x) * 11507291218515648293) = (((BitVec.ofInt 64 h ^^^ BitVec.ofInt 64 x) * cD).toNat : Int) := by
  rw [xqT, xvW, xwu]
  have : BitVec.ofInt 64 (((BitVec.ofInt 64 h ^^^ BitVec.ofInt 64 x).toNat : Int) * 11507291218515648293) = (BitVec.ofInt 64 h ^^^ BitVec.ofInt 64 x) * cD := by
   rw [BitVec.ofInt_mul, xfX] <;> rfl
  rw [this]
 unfold mixD
 rw [e1, xvW, xfX]
 have e2 : ((((BitVec.ofInt 64 h ^^^ BitVec.ofInt 64 x) * cD).toNat : Int)).fdiv ((2 : Int) ^ min (Int.toNat (32 : Int)) IntKind.u64.bits) = ((((BitVec.ofInt 64 h ^^^ BitVec.ofInt 64 x) * cD) >>> 32).toNat : Int) := by
  generalize (BitVec.ofInt 64 h ^^^ BitVec.ofInt 64 x) * cD = p
  have : (2 : Int) ^ min (Int.toNat (32 : Int)) IntKind.u64.bits = ((4294967296 : Nat) : Int) := by decide
  rw [this, BitVec.toNat_ushiftRight, Nat.shiftRight_eq_div_pow]
  rw [Int.fdiv_eq_ediv_of_nonneg _ (by omega)]
  rfl
 rw [e2, xfX]
 rfl
def sumB (o last t k n : Int) : BitVec 64 := mixB (mixB (mixB (mixB (mixB (BitVec.ofInt 64 (IntKind.u64.wrap (11400714819323198485 + IntKind.u64.wrap (5 : Nat)))) (BitVec.ofInt 64 o)) (BitVec.ofInt 64 last)) (BitVec.ofInt 64 t)) (BitVec.ofInt 64 k)) (BitVec.ofInt 64 n)
theorem xtj (o last t k n : Int) : sumF o last t k n = ((sumB o last t k n).toNat : Int) := by
 unfold sumF digF sumB
 simp only [List.foldl_cons, List.foldl_nil, List.length_cons, List.length_nil]
 simp only [xy9, xfX, xwv]
theorem xop {o last t k n last' t' k' n' : Int} (h : sumF o last t k n = sumF o last' t' k' n') : sumB o last t k n = sumB o last' t' k' n' := by
 rw [xtj, xtj] at h
 apply BitVec.eq_of_toNat_eq
 omega
theorem xrj {a b : Int} (ha : -9223372036854775808 ≤ a ∧ a ≤ 9223372036854775807) (hb : -9223372036854775808 ≤ b ∧ b ≤ 9223372036854775807) (h : BitVec.ofInt 64 a = BitVec.ofInt 64 b) : a = b := by
 have := congrArg BitVec.toInt h
 rw [BitVec.toInt_ofInt, BitVec.toInt_ofInt] at this
 simp only [Int.bmod] at this
 split at this <;> split at this <;> omega
theorem xy6 {a b : Int} (ha : 0 ≤ a ∧ a < 18446744073709551616) (hb : 0 ≤ b ∧ b < 18446744073709551616) (h : BitVec.ofInt 64 a = BitVec.ofInt 64 b) : a = b := by
 have := congrArg BitVec.toNat h
 rw [BitVec.toNat_ofInt, BitVec.toNat_ofInt] at this
 omega
theorem xvZ {o a b t k n : Int} (ha : 0 ≤ a ∧ a < 18446744073709551616) (hb : 0 ≤ b ∧ b < 18446744073709551616) (h : sumF o a t k n = sumF o b t k n) : a = b := xy6 ha hb (xuE (xqw (xqw (xqw (xop h)))))
theorem xzG {o l a b k n : Int} (ha : -9223372036854775808 ≤ a ∧ a ≤ 9223372036854775807) (hb : -9223372036854775808 ≤ b ∧ b ≤ 9223372036854775807) (h : sumF o l a k n = sumF o l b k n) : a = b := xrj ha hb (xuE (xqw (xqw (xop h))))
theorem xzI {o l t a b n : Int} (ha : -9223372036854775808 ≤ a ∧ a ≤ 9223372036854775807) (hb : -9223372036854775808 ≤ b ∧ b ≤ 9223372036854775807) (h : sumF o l t a n = sumF o l t b n) : a = b := xrj ha hb (xuE (xqw (xop h)))
theorem xzH {o l t k a b : Int} (ha : -9223372036854775808 ≤ a ∧ a ≤ 9223372036854775807) (hb : -9223372036854775808 ≤ b ∧ b ≤ 9223372036854775807) (h : sumF o l t k a = sumF o l t k b) : a = b := xrj ha hb (xuE (xop h))
theorem xun (o l t k n : Int) : 0 ≤ sumF o l t k n ∧ sumF o l t k n < 18446744073709551616 := by
 rw [xtj]
 have := (sumB o l t k n).isLt
 omega
theorem xvY {o : Int} : ∀ {l : List (List Int)} {off : Bool} {last now : Int}, vldF o off last now l = true → ∀ i (hi : i < l.length), col l[i] 3 = sumF o (if i = 0 then last else col (l.getD (i - 1) []) 3) (col l[i] 0) (col l[i] 1) (col l[i] 2)
 | [], _, _, _, _, i, hi => by simp at hi
 | x :: r, off, last, now, h, i, hi => by
  unfold vldF at h
  split at h
  ·cases h
  ·rename_i q1
   have hx : col x 3 = sumF o last (col x 0) (col x 1) (col x 2) := by
    have q1 : (!lnF (col x 0) (col x 1) (col x 2) || !ownF o (col x 1) || decide (col x 0 < now) || col x 3 != sumF o last (col x 0) (col x 1) (col x 2)) = false := by simpa using q1
    rw [Bool.or_eq_false_iff] at q1
    have := q1.2
    simpa using this
   cases i with
   | zero => exact hx
   | succ i =>
    have hr : ∃ off', vldF o off' (col x 3) (col x 0) r = true := by
     split at h
     ·split at h
      ·cases h
      ·exact ⟨_, h⟩
     ·exact ⟨_, h⟩
    obtain ⟨off', hr⟩ := hr
    have hi' : i < r.length := by simpa using hi
    have := xvY hr i hi'
    rw [if_neg (by omega)]
    show col r[i] 3 = sumF o (col ((x :: r).getD i []) 3) _ _ _
    rw [this]
    cases i with
    | zero => rfl
    | succ i => rw [if_neg (by omega)]; rfl
def xgZ (l : List (List Int)) (i : Nat) : Int := if i = 0 then 0 else col (l.getD (i - 1) []) 3
theorem xtf {o : Int} {l : List (List Int)} (h : valF o l = true) (i : Nat) (hi : i < l.length) : col l[i] 3 = sumF o (xgZ l i) (col l[i] 0) (col l[i] 1) (col l[i] 2) := by
 unfold valF at h
 rw [Bool.and_eq_true] at h
 exact xvY h.2 i hi
end Go.Proofs.YtikhnofbbcmpeaaGreat
set_option linter.unusedVariables false
set_option maxRecDepth 100000
namespace Go.Proofs.YtikhnofbbcmpeaaGreat
open Go Go.Sy
def I64 (a : Int) : Prop := -9223372036854775808 ≤ a ∧ a ≤ 9223372036854775807
theorem xz3 {n : Int} (h : (Lit.int .i64 n).wf = true) : I64 n := by
 have e1 : IntKind.i64.min = -9223372036854775808 := by decide
 have e2 : IntKind.i64.max = 9223372036854775807 := by decide
 unfold Lit.wf at h
 simp only [e1, e2, Bool.and_eq_true, decide_eq_true_eq] at h
 exact h
theorem xyT {n : Int} (h : (Lit.int .u8 n).wf = true) : 0 ≤ n ∧ n ≤ 255 := by
 have e1 : IntKind.u8.min = 0 := by decide
 have e2 : IntKind.u8.max = 255 := by decide
 unfold Lit.wf at h
 simp only [e1, e2, Bool.and_eq_true, decide_eq_true_eq] at h
 exact h
theorem xzT {t k n : Int} (h : lnF t k n = true) : I64 t ∧ I64 k ∧ I64 n := by
 unfold lnF at h
 split at h
 ·cases h
 ·rename_i h0
  have hk : I64 k := by
   have : k = 1 ∨ k = 2 ∨ k = 3 ∨ k = 4 ∨ k = 5 := by
    unfold clsF at h0
    by_cases h1 : k = 1
    ·exact .inl h1
    ·rw [if_neg h1] at h0
     by_cases h2 : k = 2 ∨ k = 3
     ·omega
     ·rw [if_neg h2] at h0
      by_cases h3 : k = 4 ∨ k = 5
      ·omega
      ·rw [if_neg h3] at h0; exact absurd rfl h0
   unfold I64; omega
  have ht : tmF t = true → I64 t := fun h => by
   unfold tmF at h
   simp only [Bool.and_eq_true, decide_eq_true_eq] at h
   unfold I64; omega
  split at h
  ·simp only [Bool.and_eq_true, beq_iff_eq] at h
   exact ⟨ht h.1, hk, by unfold I64; omega⟩
  ·rw [Bool.and_eq_true] at h
   have := h.2
   unfold itF at this
   simp only [Bool.and_eq_true, decide_eq_true_eq] at this
   exact ⟨ht h.1, hk, by unfold I64; omega⟩
theorem xx6 {o last t k i s which n : Int} (ht : I64 t) (hk : I64 k) (hi : I64 i) (hn : I64 n)
  (h : (xcx t k i s which n == t && (xcw t k i s which n == k && (xcv t k i s which n == i && (xdW t k i s which n == s && true)))) = false) :
  sumF o last (xcx t k i s which n) (xcw t k i s which n) (xcv t k i s which n) ≠ sumF o last t k i := by
 intro e
 unfold xcx xcw xcv at e
 unfold xcx xcw xcv xdW at h
 cases h0 : (which.tmod 3 == 0) with
 | true =>
  rw [h0] at e h
  simp only [cond_true] at e h
  rw [xzG hn ht e] at h
  simp at h
 | false =>
  rw [h0] at e h
  simp only [cond_false] at e h
  cases h1 : (which.tmod 3 == 1) with
  | true =>
   rw [h1] at e h
   simp only [cond_true] at e h
   rw [xzI hn hk e] at h
   simp at h
  | false =>
   rw [h1] at e h
   simp only [cond_false] at e h
   rw [xzH hn hi e] at h
   simp at h
theorem xi2 (s : List (List Int)) (m j : Nat) (v : List Int) (hm : m < s.length) : (s.set m v).getD j [] = if j = m then v else s.getD j [] := by
 rw [List.getD_eq_getElem?_getD, List.getD_eq_getElem?_getD]
 by_cases h : j = m
 ·subst h
  rw [if_pos rfl, List.getElem?_set_self hm]; rfl
 ·rw [if_neg h, List.getElem?_set_ne (by omega)]
theorem xo0 {s s' : List (List Int)} {j : Nat} (h : 0 < j → s.getD (j - 1) [] = s'.getD (j - 1) []) : xgZ s j = xgZ s' j := by
 unfold xgZ
 by_cases h0 : j = 0
 ·rw [if_pos h0, if_pos h0]
 ·rw [if_neg h0, if_neg h0, h (by omega)]
theorem digS (o a b c d : Int) : xcf ([o] :: [IntKind.i64.wrap a] :: [b] :: [[c], [d]]) ∧ xc6 ([o] :: [IntKind.i64.wrap a] :: [b] :: [[c], [d]]) = sumF o a b c d := xsR _ (by simp)
attribute [local irreducible] sumF
def rowS (o : Int) (s : List (List Int)) (j : Nat) : List Int := [col (s.getD j []) 0, col (s.getD j []) 1, col (s.getD j []) 2, sumF o (xgZ s j) (col (s.getD j []) 0) (col (s.getD j []) 1) (col (s.getD j []) 2)]
def Anew (o : Int) (k : Nat) (L R : List (List Int)) : Prop := R.length = L.length ∧ (∀ j, j < k → R.getD j [] = L.getD j []) ∧
 ∀ j, k ≤ j → j < L.length → col (R.getD j []) 0 = col (L.getD j []) 0 ∧ col (R.getD j []) 1 = col (L.getD j []) 1 ∧ col (R.getD j []) 2 = col (L.getD j []) 2 ∧ col (R.getD j []) 3 = sumF o (xgZ R j) (col (L.getD j []) 0) (col (L.getD j []) 1) (col (L.getD j []) 2)
theorem xvM (o : Int) (k : Nat) (x0 x1 x2 x3 : Int) (L : List (List Int)) (hk : k < L.length) (hl : L.length ≤ 200) : xdM o k x0 x1 x2 x3 L ∧ xcE o k x0 x1 x2 x3 L = o ∧ Anew o k (L.set k [x0, x1, x2, x3]) (xbd o k x0 x1 x2 x3 L) := by
 let L' := L.set k [x0, x1, x2, x3]
 have hL' : L'.length = L.length := List.length_set
 let I : Nat → List (List Int) → Prop := fun i s => s.length = L.length ∧ (∀ j, k + i ≤ j → s.getD j [] = L'.getD j []) ∧ (∀ j, j < k → s.getD j [] = L'.getD j []) ∧
  ∀ j, k ≤ j → j < k + i → col (s.getD j []) 0 = col (L'.getD j []) 0 ∧ col (s.getD j []) 1 = col (L'.getD j []) 1 ∧ col (s.getD j []) 2 = col (L'.getD j []) 2 ∧ col (s.getD j []) 3 = sumF o (xgZ s j) (col (L'.getD j []) 0) (col (L'.getD j []) 1) (col (L'.getD j []) 2)
 have hI : ∀ i s, i < L.length - k → I i s → I (i + 1) (s.set (k + i) (rowS o s (k + i))) := by
  rintro i s hi ⟨a1, a2, a3, a4⟩
  have hm : k + i < s.length := by omega
  refine ⟨by rw [List.length_set]; exact a1, fun j hj => ?_, fun j hj => ?_, fun j h1 h2 => ?_⟩
  ·rw [xi2 _ _ _ _ hm, if_neg (by omega)]; exact a2 j (by omega)
  ·rw [xi2 _ _ _ _ hm, if_neg (by omega)]; exact a3 j hj
  ·have hp : xgZ (s.set (k + i) (rowS o s (k + i))) j = xgZ s j := xo0 fun h0 => by rw [xi2 _ _ _ _ hm, if_neg (by omega)]
   rw [hp, xi2 _ _ _ _ hm]
   by_cases e : j = k + i
   ·subst e
    rw [if_pos rfl]
    have := a2 (k + i) (Nat.le_refl _)
    unfold rowS
    rw [this]
    exact ⟨rfl, rfl, rfl, rfl⟩
   ·rw [if_neg e]
    exact a4 j h1 (by omega)
 obtain ⟨g1, g2, g3⟩ := xl9 (step := xcD o k x0 x1 x2 x3 L) (L.length - k) (fun i (s : List (List Int)) => [.i ((k + i : Nat) : Int), .r s]) (fun i s => s.set (k + i) (rowS o s (k + i))) I 2 (fun s => [.i (L.length : Int), .r s]) hI
  (fun i s hi hIs => by
   have hm : k + i < s.length := by have := hIs.1; omega
   have hlen : s.length ≤ 200 := by have := hIs.1; omega
   unfold xcD xd5 xgu xjh xd5
   simp only [gi_z, gr_1, gr_z]
   rw [dlt hm]
   by_cases h0 : k + i = 0
   ·have hz : decide (((k + i : Nat) : Int) > 0) = false := decide_eq_false (by omega)
    rw [hz, cond_false, xaa (xaK hm), xaa (xaK hm), xaa (digS _ _ _ _ _).1, xaa (xaK hm), xaa (xaK hm), xaa (xaK hm), (digS _ _ _ _ _).2, Int.toNat_natCast, xeA (by omega)]
    have : xgZ s (k + i) = 0 := by unfold xgZ; rw [if_pos h0]
    unfold rowS
    rw [this]
    rfl
   ·have hz : decide (((k + i : Nat) : Int) > 0) = true := decide_eq_true (by omega)
    have hw : IntKind.i64.wrap (((k + i : Nat) : Int) - 1) = ((k + i - 1 : Nat) : Int) := by rw [xc2 (by omega)]; omega
    have hr : inR (IntKind.i64.wrap (((k + i : Nat) : Int) - 1)) s := by rw [hw]; exact xaK (by omega)
    rw [hz, cond_true, xaa hr, xaa hr, xaa hr, xaa (xaK hm), xaa (xaK hm), xaa (digS _ _ _ _ _).1, xaa (xaK hm), xaa (xaK hm), xaa (xaK hm), (digS _ _ _ _ _).2, hw, Int.toNat_natCast, Int.toNat_natCast, xeA (by omega)]
    have : xgZ s (k + i) = col (s.getD (k + i - 1) []) 3 := by unfold xgZ; rw [if_neg h0]
    unfold rowS
    rw [this]
    rfl)
  (fun s hIs => by
   have e : ((k + (L.length - k) : Nat) : Int) = (s.length : Int) := by have := hIs.1; omega
   have e' : (L.length : Int) = (s.length : Int) := by have := hIs.1; omega
   unfold xcD
   simp only [gi_z, gr_1, gr_z]
   rw [e, dnlt, e']) (s := L') ⟨hL', fun _ _ => rfl, fun _ _ => rfl, fun j h1 h2 => by omega⟩
 have ei : xdt o k x0 x1 x2 x3 L = [.i ((k + 0 : Nat) : Int), .r L'] := by
  unfold xdt xji
  rw [Int.toNat_natCast]
  rfl
 refine ⟨⟨by unfold xbH maxLen; omega, xaK hk, xaK hk, by rw [ei]; exact g1⟩, rfl, ?_⟩
 have e0 : xbd o k x0 x1 x2 x3 L = upto (fun i s => s.set (k + i) (rowS o s (k + i))) (L.length - k) L' := by
  unfold xbd xjj
  rw [ei, g2]
  show gr [.i (L.length : Int), .r _] 1 = _
  rw [gr_1, gr_z]
 rw [e0]
 obtain ⟨b1, b2, b3, b4⟩ := g3
 exact ⟨b1.trans hL'.symm, b3, fun j h1 h2 => b4 j h1 (by rw [List.length_set] at h2; omega)⟩
theorem xzy {o : Int} {k : Nat} {x0 x1 x2 x3 : Int} {L R : List (List Int)} (hk : k < L.length) (hv : valF o L = true) (hR : Anew o k (L.set k [x0, x1, x2, x3]) R)
  (hx : sumF o (xgZ L k) x0 x1 x2 ≠ sumF o (xgZ L k) (col (L.getD k []) 0) (col (L.getD k []) 1) (col (L.getD k []) 2)) : ∀ i, k + i < L.length → col (R.getD (k + i) []) 3 ≠ col (L.getD (k + i) []) 3 := by
 obtain ⟨a1, a2, a3⟩ := hR
 have hlen : (L.set k [x0, x1, x2, x3]).length = L.length := List.length_set
 intro i
 induction i with
 | zero =>
  intro h
  obtain ⟨_, _, _, b⟩ := a3 k (Nat.le_refl _) (by omega)
  have hp : xgZ R k = xgZ L k := xo0 fun h0 => by rw [a2 _ (by omega), xi2 _ _ _ _ hk, if_neg (by omega)]
  rw [hp, xi2 _ _ _ _ hk, if_pos rfl] at b
  have hs := xtf hv k hk
  rw [← xbq hk] at hs
  rw [Nat.add_zero, b, hs]
  exact hx
 | succ i ih =>
  intro h e
  obtain ⟨_, _, _, b⟩ := a3 (k + (i + 1)) (by omega) (by omega)
  obtain ⟨_, _, _, b'⟩ := a3 (k + i) (by omega) (by omega)
  have hs := xtf hv (k + (i + 1)) h
  have hs' := xtf hv (k + i) (by omega)
  rw [← xbq h] at hs
  rw [← xbq (show k + i < L.length by omega)] at hs'
  rw [xi2 _ _ _ _ hk, if_neg (by omega)] at b
  have p1 : xgZ R (k + (i + 1)) = col (R.getD (k + i) []) 3 := by unfold xgZ; rw [if_neg (by omega)]; rfl
  have p2 : xgZ L (k + (i + 1)) = col (L.getD (k + i) []) 3 := by unfold xgZ; rw [if_neg (by omega)]; rfl
  rw [b, hs, p1, p2] at e
  refine ih (by omega) (xvZ ?_ ?_ e)
  ·rw [b']; exact xun _ _ _ _ _
  ·rw [hs']; exact xun _ _ _ _ _
end Go.Proofs.YtikhnofbbcmpeaaGreat
set_option linter.unusedVariables false
set_option maxRecDepth 100000
namespace Go.Proofs.YtikhnofbbcmpeaaGreat
open Go Go.Sy
def sAt (L : List (List Int)) (M : Nat) : Int := if M = 0 then 0 else col (L.getD (M - 1) []) 3
def tAt (L : List (List Int)) (M : Nat) : Int := if M = 0 then -1 else col (L.getD (M - 1) []) 0
def slOk (o so st sc ss : Int) (L : List (List Int)) : Bool := valF o L && tmF st && so == o && decide (0 ≤ sc) && decide (sc ≤ 200) && !(sc == 0 && ss != 0)
def lieF (st sc ss : Int) (L : List (List Int)) (M : Nat) : Bool := sc - (M : Int) == 0 && sAt L M != ss || decide (tAt L M > st)
theorem decT {p : Prop} {inst : Decidable p} (h : p) : @decide p inst = true := decide_eq_true h
theorem decF {p : Prop} {inst : Decidable p} (h : ¬ p) : @decide p inst = false := decide_eq_false h
theorem xym {L : List (List Int)} {M : Nat} {inst : Decidable ((M : Int) > 0)} : (bif @decide ((M : Int) > 0) inst then (L.getD ((M : Int) - 1).toNat []).getD 3 0 else 0) = sAt L M := by
 unfold sAt
 by_cases h : M = 0
 ·rw [if_pos h, decF (by omega)]; rfl
 ·rw [if_neg h, decT (by omega), show ((M : Int) - 1).toNat = M - 1 by omega]; rfl
theorem xyl {L : List (List Int)} {M : Nat} {inst : Decidable ((M : Int) > 0)} : (bif @decide ((M : Int) > 0) inst then (L.getD ((M : Int) - 1).toNat []).getD 0 0 else -1) = tAt L M := by
 unfold tAt
 by_cases h : M = 0
 ·rw [if_pos h, decF (by omega)]; rfl
 ·rw [if_neg h, decT (by omega), show ((M : Int) - 1).toNat = M - 1 by omega]; rfl
theorem xwQ {a : Int} {n : Nat} (h : 0 ≤ a) : imin a (n : Int) = ((min a.toNat n : Nat) : Int) := by
 unfold imin
 by_cases h1 : (n : Int) < a
 ·rw [if_pos h1]; omega
 ·rw [if_neg h1]; omega
theorem xyj (o so st sc ss : Int) (L : List (List Int)) (hl : L.length ≤ 9223372036854775807) :
  xdd o so st sc ss L ∧ xfA o so st sc ss L = (if slOk o so st sc ss L = true then (if lieF st sc ss L (min sc.toNat L.length) = true then 0 else sc - (min sc.toNat L.length : Nat)) else 0) ∧
  xdQ o so st sc ss L = (if slOk o so st sc ss L = true then (if lieF st sc ss L (min sc.toNat L.length) = true then 18 else 0) else 1) := by
 obtain ⟨v1, v2⟩ := xey o L hl
 have e : (!valF o L || !tmF st || so != o || decide (sc < 0) || decide (sc > 200) || sc == 0 && ss != 0) = !slOk o so st sc ss L := by
  unfold slOk
  have e1 : decide (sc < 0) = !decide (0 ≤ sc) := by
   by_cases h : sc < 0
   ·rw [decide_eq_true h, decide_eq_false (by omega)]; rfl
   ·rw [decide_eq_false h, decide_eq_true (by omega)]; rfl
  have e2 : decide (sc > 200) = !decide (sc ≤ 200) := by
   by_cases h : sc > 200
   ·rw [decide_eq_true h, decide_eq_false (by omega)]; rfl
   ·rw [decide_eq_false h, decide_eq_true (by omega)]; rfl
  rw [e1, e2]
  show (!valF o L || !tmF st || !(so == o) || !decide (0 ≤ sc) || !decide (sc ≤ 200) || (sc == 0 && ss != 0)) = _
  cases valF o L <;> cases tmF st <;> cases (so == o) <;> cases decide (0 ≤ sc) <;> cases decide (sc ≤ 200) <;> cases (sc == 0 && ss != 0) <;> rfl
 unfold xdd xfA xdQ xjw xjv
 rw [v2, xjJ, e]
 cases hok : slOk o so st sc ss L with
 | false => exact ⟨⟨v1, fun h => by cases h⟩, rfl, rfl⟩
 | true =>
  have hb : 0 ≤ sc ∧ sc ≤ 200 ∧ L.length ≤ 200 := by
   unfold slOk at hok
   simp only [Bool.and_eq_true, decide_eq_true_eq] at hok
   exact ⟨hok.1.1.2, hok.1.2, (xtg hok.1.1.1.1.1).1⟩
  have hM := xwQ (n := L.length) hb.1
  have hm1 : min sc.toNat L.length ≤ L.length := Nat.min_le_right _ _
  have hm2 : ((min sc.toNat L.length : Nat) : Int) ≤ sc := by omega
  generalize min sc.toNat L.length = M at hm1 hm2 hM ⊢
  have hw : IntKind.i64.wrap ((M : Int) - 1) = (M : Int) - 1 := by rw [xc2 (by omega)]
  have hw2 : IntKind.i64.wrap (sc - (M : Int)) = sc - (M : Int) := by rw [xc2 (by omega)]
  have s0 : xba o so st sc ss L = (M : Int) - 1 := by unfold xba; rw [hM]; rfl
  have s1 : xd6 o so st sc ss L = sc - (M : Int) := by unfold xd6; rw [hM]; rfl
  have s2 : xe8 o so st sc ss L = sAt L M := by
   unfold xe8
   rw [s0, hM, hw]
   exact xym
  have s3 : xe7 o so st sc ss L = tAt L M := by
   unfold xe7
   rw [s0, hM, hw]
   exact xyl
  rw [s0, s1, s2, s3, hM, hw, hw2]
  have hlie : (sc - (M : Int) == 0 && sAt L M != ss || decide (tAt L M > st)) = lieF st sc ss L M := rfl
  rw [hlie]
  refine ⟨⟨v1, fun _ => ⟨⟨by omega, by omega⟩, fun h => ?_⟩⟩, ?_, ?_⟩
  ·have h : (M : Int) > 0 := @of_decide_eq_true _ _ h
   have hr : inR ((M : Int) - 1) L := by unfold inR; omega
   have hq : 0 ≤ (M : Int) - 1 ∧ ((0 : Nat) : Int) + ((M : Int) - 1) < (M : Int) ∧ (M : Int) ≤ (L.length : Int) := by omega
   exact ⟨hq, hr, hr, hq, hr, hr⟩
  ·cases lieF st sc ss L M <;> rfl
  ·cases lieF st sc ss L M <;> rfl
end Go.Proofs.YtikhnofbbcmpeaaGreat
set_option linter.unusedVariables false
namespace Go.Proofs.YtikhnofbbcmpeaaGreat
open Go Go.Sy
theorem xA3 {W : World} {own : Bool} {e : TypeId} {sz : Nat} {v : Value} {m : Nat} {vs : List Value} (h : xaZ W own e sz v m vs) : m ≤ 9223372036854775807 := by
 obtain ⟨a, c, _, h1, h2⟩ := h.reads.is
 unfold maxLen at h2
 omega
theorem xzL {W : World} {own : Bool} {e : TypeId} {sz : Nat} {v : Value} {m : Nat} {vs : List Value} (h : xaZ W own e sz v m vs) : v.oneCell' = true := by
 obtain ⟨a, c, rfl, _⟩ := h.reads.is
 rfl
theorem xA4 {W : World} {e : TypeId} {ks : List CK} {v : Value} {l : List (List Int)} (r : xaZ W false e ks.length v l.length (rowV ks l)) (k : Nat) : v.oneCell' = true ∧ xa7 (.row e ks l) = true ∧ ∀ (E : Env), E k = v → xa3 E W k false (.row e ks l) :=
 ⟨xzL r, rfl, fun E he => by
  show xaZ W false e ks.length (E k) l.length (rowV ks l)
  rw [he]; exact r⟩
end Go.Proofs.YtikhnofbbcmpeaaGreat
set_option linter.unusedVariables false
set_option maxRecDepth 100000
namespace Go.Proofs.YtikhnofbbcmpeaaGreat
open Go Go.Sy
attribute [local irreducible] sumF
theorem xxx {a : Int} {n : Nat} (h : 0 ≤ a ∧ a ≤ 255) : (IntKind.i64.wrap a).tmod (n : Int) = ((a.toNat % n : Nat) : Int) := by
 rw [xc2 (by omega)]
 obtain ⟨b, rfl⟩ := Int.eq_ofNat_of_zero_le h.1
 rw [Int.toNat_natCast]
 exact (Int.ofNat_tmod b n).symm
theorem xxA {o : Int} (l : List (List Int)) : ∀ (m : Nat) (off : Bool) (last now : Int), vldF o off last now l = true → vldF o off last now (l.take m) = true := by
 induction l with
 | nil => intro m off last now _; rw [List.take_nil]; rfl
 | cons x r ih =>
  intro m off last now h
  cases m with
  | zero => rfl
  | succ m =>
   rw [List.take_succ_cons]
   unfold vldF at h ⊢
   split at h
   ·cases h
   ·rename_i q1
    rw [if_neg q1]
    split at h
    ·rename_i q2
     rw [if_pos q2]
     split at h
     ·cases h
     ·rename_i q3
      rw [if_neg q3]
      exact ih _ _ _ _ h
    ·rename_i q2
     rw [if_neg q2]
     exact ih _ _ _ _ h
theorem xxC {o : Int} {l : List (List Int)} (h : valF o l = true) (m : Nat) : vldF o false 0 0 (l.take m) = true := by
 unfold valF at h
 rw [Bool.and_eq_true] at h
 exact xxA l m _ _ _ h.2
theorem xy0 {o : Int} {L : List (List Int)} {k : Nat} {which n : Int} (hv : valF o L = true) (hk : k < L.length) (hn : I64 n)
  (hs : (xcx (col (L.getD k []) 0) (col (L.getD k []) 1) (col (L.getD k []) 2) (col (L.getD k []) 3) which n == col (L.getD k []) 0 && (xcw (col (L.getD k []) 0) (col (L.getD k []) 1) (col (L.getD k []) 2) (col (L.getD k []) 3) which n == col (L.getD k []) 1 && (xcv (col (L.getD k []) 0) (col (L.getD k []) 1) (col (L.getD k []) 2) (col (L.getD k []) 3) which n == col (L.getD k []) 2 && (xdW (col (L.getD k []) 0) (col (L.getD k []) 1) (col (L.getD k []) 2) (col (L.getD k []) 3) which n == col (L.getD k []) 3 && true)))) = false) :
  sumF o (xgZ L k) (xcx (col (L.getD k []) 0) (col (L.getD k []) 1) (col (L.getD k []) 2) (col (L.getD k []) 3) which n) (xcw (col (L.getD k []) 0) (col (L.getD k []) 1) (col (L.getD k []) 2) (col (L.getD k []) 3) which n) (xcv (col (L.getD k []) 0) (col (L.getD k []) 1) (col (L.getD k []) 2) (col (L.getD k []) 3) which n) ≠ sumF o (xgZ L k) (col (L.getD k []) 0) (col (L.getD k []) 1) (col (L.getD k []) 2) := by
 have hr : I64 (col (L.getD k []) 0) ∧ I64 (col (L.getD k []) 1) ∧ I64 (col (L.getD k []) 2) := by
  rw [xbq hk]
  exact xzT ((xum hv).1 _ (List.getElem_mem hk)).2.1
 exact xx6 hr.1 hr.2.1 hr.2.2 hn hs
theorem xxI (o count cut at_ which n : Int) (L : List (List Int)) (h1 : L.length ≤ 9223372036854775807) (hco : 0 ≤ count ∧ count ≤ 255) (hcu : 0 ≤ cut ∧ cut ≤ 255) (hat : 0 ≤ at_ ∧ at_ ≤ 255) (hn : I64 n) :
  xcW o count cut at_ which n L = true ∧ xbI o count cut at_ which n L := by
 obtain ⟨v1, v2⟩ := xey o L h1
 unfold xcW xbI
 rw [xwR, v2]
 cases hg : ((L.length : Int) == 0 || !valF o L) with
 | true => exact ⟨rfl, xuQ, fun _ => v1, fun h => by cases h⟩
 | false =>
  rw [cond_false]
  rw [Bool.or_eq_false_iff] at hg
  have hv : valF o L = true := by simpa using hg.2
  have hne : ¬ (L.length : Int) = 0 := by simpa using hg.1
  obtain ⟨hlen, ho0, ho8⟩ := xtg hv
  have hK0 : count.toNat % L.length < L.length := Nat.mod_lt _ (by omega)
  have eK : IntKind.i64.wrap (1 + (IntKind.i64.wrap count).tmod (L.length : Int)) = ((1 + count.toNat % L.length : Nat) : Int) := by
   rw [xxx hco, xc2 (by omega)]
   omega
  have eK1 : IntKind.i64.wrap (((1 + count.toNat % L.length : Nat) : Int) - 1) = ((count.toNat % L.length : Nat) : Int) := by
   rw [xc2 (by omega)]
   omega
  generalize hk0 : count.toNat % L.length = k0 at hK0 eK eK1
  have eN : IntKind.i64.wrap ((L.length : Int) + 1) = ((L.length + 1 : Nat) : Int) := by
   rw [xc2 (by omega)]
   omega
  have eM : (IntKind.i64.wrap cut).tmod ((L.length + 1 : Nat) : Int) = ((cut.toNat % (L.length + 1) : Nat) : Int) := xxx hcu
  have hM : cut.toNat % (L.length + 1) ≤ L.length := Nat.le_of_lt_succ (Nat.mod_lt _ (by omega))
  generalize cut.toNat % (L.length + 1) = m at eM hM
  have eI : (IntKind.i64.wrap at_).tmod ((1 + k0 : Nat) : Int) = ((at_.toNat % (1 + k0) : Nat) : Int) := xxx hat
  have hI : at_.toNat % (1 + k0) < 1 + k0 := Nat.mod_lt _ (by omega)
  generalize at_.toNat % (1 + k0) = i at eI hI
  have hi : i < L.length := by omega
  have q0 : xbg o count cut at_ which n L = (m : Int) := by unfold xbg; rw [eN, eM]; rfl
  have q2 : xai o count cut at_ which n L = ((min (1 + k0) m : Nat) : Int) := by
   unfold xai
   rw [q0, eK]
   show imin _ _ = _
   rw [xwQ (by omega), Int.toNat_natCast]
  have hmm1 : min (1 + k0) m ≤ 1 + k0 := Nat.min_le_left _ _
  have hmm2 : min (1 + k0) m ≤ m := Nat.min_le_right _ _
  have hmm3 : min (1 + k0) m = 1 + k0 ∨ min (1 + k0) m = m := by omega
  generalize min (1 + k0) m = M at q2 hmm1 hmm2 hmm3
  have hw : IntKind.i64.wrap ((M : Int) - 1) = (M : Int) - 1 := by rw [xc2 (by omega)]
  have hw2 : IntKind.i64.wrap (((1 + k0 : Nat) : Int) - (M : Int)) = ((1 + k0 : Nat) : Int) - (M : Int) := by rw [xc2 (by omega)]
  have q3 : xaE o count cut at_ which n L = (M : Int) - 1 := by unfold xaE; rw [q2]; rfl
  have q8 : xcF o count cut at_ which n L = ((1 + k0 : Nat) : Int) - (M : Int) := by unfold xcF; rw [q2, eK]; rfl
  have q9 : xdu o count cut at_ which n L = sAt L M := by
   unfold xdu
   rw [q3, q2, hw]
   exact xym
  have q10 : xdj o count cut at_ which n L = tAt L M := by
   unfold xdj
   rw [q3, q2, hw]
   exact xyl
  have q4 : xaq o count cut at_ which n L = xcx (col (L.getD i []) 0) (col (L.getD i []) 1) (col (L.getD i []) 2) (col (L.getD i []) 3) which n := by unfold xaq; rw [eK, eI, Int.toNat_natCast]
  have q5 : xap o count cut at_ which n L = xcw (col (L.getD i []) 0) (col (L.getD i []) 1) (col (L.getD i []) 2) (col (L.getD i []) 3) which n := by unfold xap; rw [eK, eI, Int.toNat_natCast]
  have q6 : xao o count cut at_ which n L = xcv (col (L.getD i []) 0) (col (L.getD i []) 1) (col (L.getD i []) 2) (col (L.getD i []) 3) which n := by unfold xao; rw [eK, eI, Int.toNat_natCast]
  have q7 : xan o count cut at_ which n L = xdW (col (L.getD i []) 0) (col (L.getD i []) 1) (col (L.getD i []) 2) (col (L.getD i []) 3) which n := by unfold xan; rw [eK, eI, Int.toNat_natCast]
  have hloop : xaM (xbh o count cut at_ which n L) (xdn o count cut at_ which n L) ∧ xa5 o count cut at_ which n L = endL (fun s : Bool × Int × Int => (4, [.b false, .b s.1, .i s.2.1, .i s.2.2, .i (m : Int)])) (runL (xkL o) (false, 0, 0) (L.take m)) := by
   have hml : (L.take m).length = m := by rw [List.length_take]; omega
   have h := xdL (step := xbh o count cut at_ which n L) (L.take m) (fun i (s : Bool × Int × Int) => [.b false, .b s.1, .i s.2.1, .i s.2.2, .i i]) (xkL o) (fun _ _ => True) (fun s => (4, [.b false, .b s.1, .i s.2.1, .i s.2.2, .i (m : Int)])) 0
    (fun j s hj _ _ => ⟨by
     have hj' : j < m := by omega
     have hjL : j < L.length := by omega
     have hq : 0 ≤ (j : Int) ∧ ((0 : Nat) : Int) + (j : Int) < (m : Int) ∧ (m : Int) ≤ (L.length : Int) := by omega
     have e : (L.take m)[j] = L[j] := List.getElem_take
     unfold xbh xgm
     rw [q0, eN, eM, e]
     simp only [gi_4, gi_3, gi_2, gi_1, gi_z, gb_1, gb_z, xag, loN, shI, dlt hj', xeA (show j < 9223372036854775807 by omega), xbp hjL, xtG, xwl, (xqh _ _ _ _ _ _).2, xmz]
     rw [xaa hq, xaa (xaK hjL), xaa (fun _ => (xqh _ _ _ _ _ _).1)]
     generalize L[j] = x
     unfold xkL
     cases h1 : (!lnF (col x 0) (col x 1) (col x 2) || !ownF o (col x 1) || decide (col x 0 < s.2.2) || col x 3 != sumF o s.2.1 (col x 0) (col x 1) (col x 2)) with
     | true => rw [if_pos rfl]; rfl
     | false =>
      rw [if_neg (by decide), cond_false]
      by_cases h2 : clsF (col x 1) = 3
      ·rw [if_pos h2, h2]
       by_cases h3 : s.1 = (col x 1 == 4)
       ·rw [if_pos h3, h3]; simp only [beq_self_eq_true, cond_true]; rfl
       ·rw [if_neg h3]
        have : (s.1 == (col x 1 == 4)) = false := by simpa using h3
        rw [this]; rfl
      ·rw [if_neg h2]
       rw [bne h2]; rfl, fun _ _ => trivial⟩)
    (fun j s hj _ => by
     have : j = m := by omega
     subst this
     unfold xbh
     rw [q0]
     simp only [gi_4, gi_3, gi_2, gi_1, gi_z, gb_1, gb_z, dnlt]) (s := (false, 0, 0)) trivial
   rw [List.drop_zero] at h
   exact h
  have hvt : (bif (xa5 o count cut at_ which n L).fst.beq 1 then false else bif (xa5 o count cut at_ which n L).fst.beq 2 then false else true) = true := by
   rw [hloop.2]
   exact (xlO o m (L.take m) (false, 0, 0)).trans (xxC hv m)
  obtain ⟨n1, n2, n3⟩ := xvM o i (xaq o count cut at_ which n L) (xap o count cut at_ which n L) (xao o count cut at_ which n L) (xan o count cut at_ which n L) L hi hlen
  obtain ⟨p1, p2⟩ := xum hv
  have hk0 : k0 < L.length := hK0
  have htm : tmF (col (L.getD k0 []) 0) = true := by
   have := (p1 _ (List.getElem_mem hk0)).2.1
   rw [← xbq hk0] at this
   unfold lnF at this
   split at this
   ·cases this
   ·split at this
    ·exact (Bool.and_eq_true_iff.1 this).1
    ·exact (Bool.and_eq_true_iff.1 this).1
  have hlie : lieF (col (L.getD k0 []) 0) ((1 + k0 : Nat) : Int) (col (L.getD k0 []) 3) L M = false := by
   unfold lieF
   rw [Bool.or_eq_false_iff]
   constructor
   ·by_cases h : M = 1 + k0
    ·have : sAt L M = col (L.getD k0 []) 3 := by unfold sAt; rw [if_neg (by omega), show M - 1 = k0 by omega]
     rw [this]; simp
    ·rw [bne (show ¬ ((1 + k0 : Nat) : Int) - (M : Int) = 0 by omega)]; rfl
   ·refine decide_eq_false ?_
    unfold tAt
    by_cases h : M = 0
    ·rw [if_pos h]
     unfold tmF at htm
     simp only [Bool.and_eq_true, decide_eq_true_eq] at htm
     omega
    ·rw [if_neg h]
     have hle : col (L.getD (M - 1) []) 0 ≤ col (L.getD k0 []) 0 := by
      by_cases e : M - 1 = k0
      ·rw [e]; exact Int.le_refl _
      ·have := List.pairwise_iff_getElem.1 p2 (M - 1) k0 (by omega) hk0 (by omega)
       rw [xbq (show M - 1 < L.length by omega), xbq hk0]
       exact this
     omega
  have hbad : (!bif decide (o < 0) || decide (o > 8) || decide ((m : Int) > 200) then false else true) = false := by
   rw [decide_eq_false (show ¬ o < 0 by omega), decide_eq_false (show ¬ o > 8 by omega), decide_eq_false (show ¬ (m : Int) > 200 by omega)]
   rfl
  have hbd : decide (((1 + k0 : Nat) : Int) < 0) = false := decide_eq_false (by omega)
  have hbd2 : decide (((1 + k0 : Nat) : Int) > 200) = false := decide_eq_false (by omega)
  have hbd3 : (((1 + k0 : Nat) : Int) == 0) = false := bne (by omega)
  have hoo : (o != o) = false := by simp
  have s11 : xek o count cut at_ which n L = 0 := by
   unfold xek
   rw [q8, q9, q10, eK, eK1, hw2, Int.toNat_natCast]
   have : (((1 + k0 : Nat) : Int) - (M : Int) == 0 && sAt L M != (L.getD k0 []).getD 3 0 || decide (tAt L M > (L.getD k0 []).getD 0 0)) = false := hlie
   rw [this]; rfl
  have s13 : xej o count cut at_ which n L = ((1 + k0 : Nat) : Int) - (M : Int) := by
   unfold xej
   rw [q8, q9, q10, eK, eK1, hw2, Int.toNat_natCast]
   have : (((1 + k0 : Nat) : Int) - (M : Int) == 0 && sAt L M != (L.getD k0 []).getD 3 0 || decide (tAt L M > (L.getD k0 []).getD 0 0)) = false := hlie
   rw [this]; rfl
  have s12 : xdi o count cut at_ which n L = 0 := by
   unfold xdi
   rw [hvt, q0, hbad, eK, eK1, Int.toNat_natCast, xjJ, htm, hoo, hbd, hbd2, hbd3, s11]
   rfl
  have s14 : xdh o count cut at_ which n L = ((1 + k0 : Nat) : Int) - (M : Int) := by
   unfold xdh
   rw [hvt, q0, hbad, eK, eK1, Int.toNat_natCast, xjJ, htm, hoo, hbd, hbd2, hbd3, s13]
   rfl
  have hmax : (((1 + k0 : Nat) : Int) - (M : Int) == imax 0 (IntKind.i64.wrap (((1 + k0 : Nat) : Int) - (m : Int)))) = true := by
   rw [xc2 (by omega), beq_iff_eq]
   unfold imax
   by_cases h : ((1 + k0 : Nat) : Int) - (m : Int) > 0
   ·rw [if_pos h]; omega
   ·rw [if_neg h]; omega
  have q15 : xei o count cut at_ which n L = xdQ o o (col (L.getD k0 []) 0) ((1 + k0 : Nat) : Int) (col (L.getD k0 []) 3) (xbd o i (xaq o count cut at_ which n L) (xap o count cut at_ which n L) (xao o count cut at_ which n L) (xan o count cut at_ which n L) L) := by
   unfold xei
   rw [eK, eK1, eI, Int.toNat_natCast, n2]
  rw [s12, s14, q15]
  have hA := fun hs => xzy hi hv n3 (by rw [q4, q5, q6]; exact xy0 (which := which) hv hi hn hs)
  rw [eK, eK1, eN, eM, eI, n2, Int.toNat_natCast, Int.toNat_natCast, hmax]
  have hRl : (xbd o i (xaq o count cut at_ which n L) (xap o count cut at_ which n L) (xao o count cut at_ which n L) (xan o count cut at_ which n L) L).length = L.length := by rw [n3.1, List.length_set]
  rw [← q4, ← q5, ← q6, ← q7] at hA
  generalize xbd o i (xaq o count cut at_ which n L) (xap o count cut at_ which n L) (xao o count cut at_ which n L) (xan o count cut at_ which n L) L = R at hA hRl ⊢
  obtain ⟨y1, y2⟩ := xey o R (by omega)
  obtain ⟨z1, z2, z3⟩ := xyj o o (col (L.getD k0 []) 0) ((1 + k0 : Nat) : Int) (col (L.getD k0 []) 3) R (by omega)
  have hr1 : inR ((k0 : Nat) : Int) L := xaK hk0
  have hr2 : inR ((i : Nat) : Int) L := xaK hi
  refine ⟨?_, xuQ, fun _ => v1, fun _ => ?_⟩
  ·rw [y2]
   cases hs : (xaq o count cut at_ which n L == (L.getD i []).getD 0 0 && (xap o count cut at_ which n L == (L.getD i []).getD 1 0 && (xao o count cut at_ which n L == (L.getD i []).getD 2 0 && (xan o count cut at_ which n L == (L.getD i []).getD 3 0 && true)))) with
   | true => rfl
   | false =>
    cases hvR : valF o R with
    | false => rfl
    | true =>
     have hne3 := hA hs (k0 - i) (by omega)
     rw [show i + (k0 - i) = k0 by omega] at hne3
     have hsl : slOk o o (col (L.getD k0 []) 0) ((1 + k0 : Nat) : Int) (col (L.getD k0 []) 3) R = true := by
      unfold slOk
      rw [hvR, htm, hbd3, decide_eq_true (show (0 : Int) ≤ ((1 + k0 : Nat) : Int) by omega), decide_eq_true (show ((1 + k0 : Nat) : Int) ≤ 200 by omega)]
      simp
     have hmin : min ((1 + k0 : Nat) : Int).toNat R.length = 1 + k0 := by rw [Int.toNat_natCast]; omega
     have hl2 : lieF (col (L.getD k0 []) 0) ((1 + k0 : Nat) : Int) (col (L.getD k0 []) 3) R (1 + k0) = true := by
      unfold lieF
      have : sAt R (1 + k0) = col (R.getD k0 []) 3 := by unfold sAt; rw [if_neg (by omega), show 1 + k0 - 1 = k0 by omega]
      rw [this]
      have hb : (col (R.getD k0 []) 3 != col (L.getD k0 []) 3) = true := by simpa using hne3
      rw [hb, Int.sub_self]; rfl
     rw [z3, if_pos hsl, hmin, if_pos hl2]
     rfl
  ·rw [q2, q3, hw]
   have hcut : 0 ≤ (m : Int) ∧ (m : Int) ≤ (L.length : Int) := by omega
   have hcut2 : 0 ≤ (M : Int) ∧ (M : Int) ≤ (L.length : Int) := by omega
   have hn1 : ((L.length + 1 : Nat) : Int) ≠ 0 := by omega
   have hk1 : ((1 + k0 : Nat) : Int) ≠ 0 := by omega
   have hlast : (M : Int) > 0 → (0 ≤ (M : Int) - 1 ∧ ((0 : Nat) : Int) + ((M : Int) - 1) < (M : Int) ∧ (M : Int) ≤ (L.length : Int)) ∧ inR ((M : Int) - 1) L := fun h => by
    refine ⟨by omega, ?_⟩
    unfold inR; omega
   repeat' first | exact hr1 | exact hr2 | exact hne | exact hn1 | exact hk1 | exact hcut | exact fun _ => hloop.1 | exact n1 | exact fun _ => y1 | exact fun _ => z1 | exact fun _ => ⟨hcut2, fun h => by
     obtain ⟨w1, w2⟩ := hlast (@of_decide_eq_true _ _ h)
     exact ⟨w1, w2, w2, w1, w2, w2⟩⟩ | refine And.intro ?_ ?_
end Go.Proofs.YtikhnofbbcmpeaaGreat
